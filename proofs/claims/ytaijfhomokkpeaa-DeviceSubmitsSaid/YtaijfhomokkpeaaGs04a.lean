/-
  Gs04a: what these chapters need.
-/
import Derived.Test.YtaijfhomokkpeaaCCa
import Derived.Test.YtaijfhomokkpeaaCCb
import Derived.Test.YtaijfhomokkpeaaGs03b
import Derived.Test.YtaijfhomokkpeaaLkC
set_option linter.unusedSimpArgs false
set_option linter.unusedVariables false
namespace Lk.S04
open Go Lk Lk.C Lk.S03
structure Rq where
  ticket : Int
  kind : Int
  page : Int
  data : List UInt8
deriving DecidableEq
instance : Inhabited Rq := ⟨⟨0, 0, 0, []⟩⟩
structure Dv where
  disk : Dsk
  next : Int
  flight : List Rq
deriving DecidableEq
def rqE (r : Rq) (j : Nat) : Cell :=
  match j with
  | 0 => .int .i64 r.ticket
  | 1 => .int .i64 r.kind
  | 2 => .int .i64 r.page
  | _ => .str r.data
def dvE (d : Dv) (j : Nat) : Cell :=
  match j with
  | 0 => slL 1 strE d.disk.secs
  | 1 => slL 2 wrE d.disk.cache
  | 2 => .int .i64 d.next
  | _ => slL 4 rqE d.flight
def may (kind page : Int) (data : List UInt8) : Prop := kind = 1 ∧ (1 ≤ page ∧ page ≤ 16) ∧ data.length = 0 ∨ kind = 2 ∧ (1 ≤ page ∧ page ≤ 16) ∧ data.length = 32 ∨ kind = 3 ∧ page = 0 ∧ data.length = 0
instance (k p : Int) (s : List UInt8) : Decidable (may k p s) := by unfold may; infer_instance
/-- The ticket ahead of the one at i. -/
def ahead (l : List Rq) (i : Nat) : Int := if i = 0 then -1 else (l.getD (i - 1) default).ticket
def okAt (n : Int) (l : List Rq) (i : Nat) : Prop := ahead l i < (l.getD i default).ticket ∧ (l.getD i default).ticket < n ∧ may (l.getD i default).kind (l.getD i default).page (l.getD i default).data
instance (n : Int) (l : List Rq) (i : Nat) : Decidable (okAt n l i) := by unfold okAt; infer_instance
def rightV (d : Dv) : Prop := (right d.disk ∧ 35 ≤ d.disk.secs.length) ∧ (0 ≤ d.next ∧ d.next ≤ 2147483647 ∧ d.flight.length ≤ 4) ∧ ∀ i, i < d.flight.length → okAt d.next d.flight i
instance (d : Dv) : Decidable (rightV d) := by unfold rightV; infer_instance
def hm (p : Int) : Int := 2 * p + 1
/-- What Submit answers. -/
def subNo (d : Dv) (k p : Int) (s : List UInt8) : Prop := ¬ rightV d ∨ d.next = 2147483647 ∨ ¬ may k p s
instance (d : Dv) (k p : Int) (s : List UInt8) : Decidable (subNo d k p s) := by unfold subNo; infer_instance
def subm (d : Dv) (k p : Int) (s : List UInt8) : Dv × Int × Int :=
  if subNo d k p s then (d, 0, 1) else if 4 ≤ d.flight.length then (d, 0, 6) else (⟨d.disk, d.next + 1, d.flight ++ [⟨d.next, k, p, s⟩]⟩, d.next, 0)
/-- What a write does. -/
def w0 (r : Rq) : Wr := ⟨hm r.page, r.data.take 16⟩
def w1 (r : Rq) : Wr := ⟨hm r.page + 1, r.data.drop 16⟩
def putR (d : Dsk) (r : Rq) : Dsk × Int := if d.putE (w0 r) ≠ 0 then (d, 7) else if (d.put (w0 r)).putE (w1 r) ≠ 0 then (d.put (w0 r), 7) else ((d.put (w0 r)).put (w1 r), 0)
def without (l : List Rq) (i : Nat) : List Rq := l.take i ++ l.drop (i + 1)
def two (d : Dsk) (p : Int) : List UInt8 := (d.rd (hm p)).1 ++ (d.rd (hm p + 1)).1
/-- What Finish answers, when the request is there. -/
def fin1 (d : Dv) (r : Rq) (l : List Rq) : Dv × Rq × Int :=
  if r.kind = 1 then (⟨d.disk, d.next, l⟩, ⟨r.ticket, r.kind, r.page, two d.disk r.page⟩, 0)
  else if r.kind = 2 then (⟨(putR d.disk r).1, d.next, l⟩, r, (putR d.disk r).2)
  else (⟨d.disk.sync, d.next, l⟩, r, 0)
def finNo (d : Dv) (i : Int) : Prop := ¬ rightV d ∨ i < 0 ∨ (d.flight.length : Int) ≤ i
instance (d : Dv) (i : Int) : Decidable (finNo d i) := by unfold finNo; infer_instance
def finD (d : Dv) (i : Int) (fault : Bool) : Dv × Rq × Int :=
  if finNo d i then (d, ⟨0, 0, 0, []⟩, 1)
  else if fault then (⟨d.disk, d.next, without d.flight i.toNat⟩, d.flight.getD i.toNat default, 8)
  else fin1 d (d.flight.getD i.toNat default) (without d.flight i.toNat)
def crashV (d : Dv) (keep : List Int) : Dv := if rightV d then ⟨d.disk.crash keep, d.next, []⟩ else d
/-- A device of small lists. -/
structure SmallV (d : Dv) : Prop where
  k : Small d.disk
  f : d.flight.length ≤ 1000000
  lf : ∀ r ∈ d.flight, r.data.length ≤ 1000000
def ERq : Enc Rq where
  sh := [.int .i64, .int .i64, .int .i64, .str]
  enc := rqE
  wf r := r.data.length ≤ 9223372036854775807
  dec g h := by
    obtain ⟨a, ha, _⟩ := (h 0 _ rfl).intE
    obtain ⟨b, hb, _⟩ := (h 1 _ rfl).intE
    obtain ⟨c, hc, _⟩ := (h 2 _ rfl).intE
    obtain ⟨s, hs, hl⟩ := (h 3 _ rfl).strE
    refine ⟨⟨a, b, c, s⟩, hl, fun j hj => ?_⟩
    have hj : j < 4 := hj
    rcases (show j = 0 ∨ j = 1 ∨ j = 2 ∨ j = 3 by omega) with rfl | rfl | rfl | rfl
    · rw [ha]; exact CEq.refl _
    · rw [hb]; exact CEq.refl _
    · rw [hc]; exact CEq.refl _
    · rw [hs]; exact CEq.refl _
def EDv : Enc Dv where
  sh := [.sl EStr.sh, .sl EWr.sh, .int .i64, .sl ERq.sh]
  enc := dvE
  wf d := EDsk.wf d.disk ∧ rng .i64 d.next ∧ d.flight.length ≤ 9223372036854775807 ∧ ∀ r ∈ d.flight, r.data.length ≤ 9223372036854775807
  dec g h := by
    obtain ⟨a, ha, hw⟩ := EDsk.dec g (fun j s hj => h j s (by
      rcases (show j = 0 ∨ j = 1 ∨ 2 ≤ j by omega) with rfl | rfl | h2
      · exact hj
      · exact hj
      · rw [show EDsk.sh = [.sl EStr.sh, .sl EWr.sh] from rfl, List.getElem?_eq_none (by simpa using h2)] at hj; cases hj))
    obtain ⟨n, hn, hr⟩ := (h 2 _ rfl).intE
    obtain ⟨l, h1, h2, h3⟩ := ERq.list (h 3 _ rfl)
    refine ⟨⟨a, n, l⟩, ⟨ha, hr, h2, h1⟩, fun j hj => ?_⟩
    have hj : j < 4 := hj
    rcases (show j = 0 ∨ j = 1 ∨ j = 2 ∨ j = 3 by omega) with rfl | rfl | rfl | rfl
    · exact hw 0 (by decide)
    · exact hw 1 (by decide)
    · rw [hn]; exact CEq.refl _
    · exact h3
section
variable {P : Program} {F : Nat → Nat}
set_option maxHeartbeats 8000000 in
set_option maxRecDepth 100000 in
theorem home_ok (hm' : P.follows .mixedOrders = true) (hk : device_home_k P F) (p : Int) (h1 : -1000000 ≤ p) (h2 : p ≤ 1000000) : FnOk P (F 147) [.one (.int .i64 p)] [.one (.im (.int .i64 (hm p)))] := by
  refine fnOk hm' hk ?_
  repeat' first
    | (with_reducible first | refine NeedI.mk (fun h => h) ?_ | refine NeedI.mk (fun h => h.2) ?_ | refine NeedI.mk (fun h => h.1) ?_ | (show Done; exact Done.mk) | refine Both.mk (fun _ => ?_) (fun _ => ?_) | refine Both2.mk (fun _ => ?_) ?_ | (refine Need.mk ?_ ?_; (first | omega | with_reducible exact CEq.refl _ | (dsimp only; omega) | (dsimp only [rng]; omega) | (simp only [decide_eq_true_eq, decide_eq_false_iff_not, Bool.or_eq_true, Bool.and_eq_true, Bool.or_eq_false_iff, Int.toNat_natCast, addN_eq, cond_false, cond_true, rng] at *; omega) | exact ⟨rfl, rfl⟩)))
    | ((with_reducible refine Need.mk ?_ ?_); exact CEq.refl _)
    | ((with_reducible fail_if_success first | refine LoopVC.mk ?_ | refine Need.mk ?_ ?_ | refine CallVC.mk ?_ | refine LoopEnd.mk ?_ | refine Out.mk ?_ | show False | refine NeedI.mk ?_ ?_); conv => whnf)
set_option maxHeartbeats 8000000 in
set_option maxRecDepth 100000 in
theorem request_ok (hm' : P.follows .mixedOrders = true) (hk : device_request_k P F) (k p : Int) (s : List UInt8) (hs : s.length ≤ 9223372036854775807) :
    FnOk P (F 188) [.one (.int .i64 k), .one (.int .i64 p), .one (.str s)] [.one (.im (.bool (decide (may k p s))))] := by
  refine fnOk hm' hk ?_
  repeat' first
    | (with_reducible first | refine NeedI.mk (fun h => h) ?_ | refine NeedI.mk (fun h => h.2) ?_ | refine NeedI.mk (fun h => h.1) ?_ | (show Done; exact Done.mk) | refine Both.mk (fun _ => ?_) (fun _ => ?_) | refine Both2.mk (fun _ => ?_) ?_ | (refine Need.mk ?_ ?_; (first | omega | with_reducible exact CEq.refl _ | (dsimp only; omega) | (dsimp only [rng]; omega) | (simp only [decide_eq_true_eq, decide_eq_false_iff_not, Bool.or_eq_true, Bool.and_eq_true, Bool.or_eq_false_iff, Int.toNat_natCast, addN_eq, cond_false, cond_true, rng] at *; omega) | exact ⟨rfl, rfl⟩)))
    | ((with_reducible refine Need.mk ?_ ?_); exact CEq.refl _)
    | ((with_reducible fail_if_success first | refine LoopVC.mk ?_ | refine Need.mk ?_ ?_ | refine CallVC.mk ?_ | refine LoopEnd.mk ?_ | refine Out.mk ?_ | show False | refine NeedI.mk ?_ ?_); conv => whnf)
  all_goals (refine Need.mk (eB (by (rw [Bool.eq_iff_iff]; simp only [← List.length_eq_zero_iff, Bool.and_eq_true, Bool.or_eq_true, Bool.or_eq_false_iff, Bool.and_eq_false_imp, Bool.not_eq_true', Bool.not_eq_false', decide_eq_true_eq, decide_eq_false_iff_not, Bool.false_eq_true, false_iff] at *; unfold may; omega))) ?_)
  all_goals
    repeat' first
      | (with_reducible first | refine NeedI.mk (fun h => h) ?_ | refine NeedI.mk (fun h => h.2) ?_ | refine NeedI.mk (fun h => h.1) ?_ | (show Done; exact Done.mk) | refine Both.mk (fun _ => ?_) (fun _ => ?_) | refine Both2.mk (fun _ => ?_) ?_ | (refine Need.mk ?_ ?_; (with_reducible exact Nat.le_of_eq (Nat.zero_add _))))
      | ((with_reducible refine Need.mk ?_ ?_); exact CEq.refl _)
      | ((with_reducible fail_if_success first | refine LoopVC.mk ?_ | refine Need.mk ?_ ?_ | refine CallVC.mk ?_ | refine LoopEnd.mk ?_ | refine Out.mk ?_ | show False | refine NeedI.mk ?_ ?_); conv => whnf)
set_option maxHeartbeats 8000000 in
set_option maxRecDepth 100000 in
theorem rmay_ok (hm' : P.follows .mixedOrders = true) (hk : ref04_May_k P F) (k p : Int) (s : List UInt8) (hs : s.length ≤ 9223372036854775807) :
    FnOk P (F 190) [.one (.int .i64 k), .one (.int .i64 p), .one (.str s)] [.one (.im (.bool (decide (may k p s))))] := by
  refine fnOk hm' hk ?_
  repeat' first
    | (with_reducible first | refine NeedI.mk (fun h => h) ?_ | refine NeedI.mk (fun h => h.2) ?_ | refine NeedI.mk (fun h => h.1) ?_ | (show Done; exact Done.mk) | refine Both.mk (fun _ => ?_) (fun _ => ?_) | refine Both2.mk (fun _ => ?_) ?_ | (refine Need.mk ?_ ?_; (first | omega | with_reducible exact CEq.refl _ | (dsimp only; omega) | (dsimp only [rng]; omega) | (simp only [decide_eq_true_eq, decide_eq_false_iff_not, Bool.or_eq_true, Bool.and_eq_true, Bool.or_eq_false_iff, Int.toNat_natCast, addN_eq, cond_false, cond_true, rng] at *; omega) | exact ⟨rfl, rfl⟩)))
    | ((with_reducible refine Need.mk ?_ ?_); exact CEq.refl _)
    | ((with_reducible fail_if_success first | refine LoopVC.mk ?_ | refine Need.mk ?_ ?_ | refine CallVC.mk ?_ | refine LoopEnd.mk ?_ | refine Out.mk ?_ | show False | refine NeedI.mk ?_ ?_); conv => whnf)
  all_goals (refine Need.mk (eB (by (rw [Bool.eq_iff_iff]; simp only [← List.length_eq_zero_iff, Bool.and_eq_true, Bool.or_eq_true, Bool.or_eq_false_iff, Bool.and_eq_false_imp, Bool.not_eq_true', Bool.not_eq_false', decide_eq_true_eq, decide_eq_false_iff_not, Bool.false_eq_true, false_iff] at *; unfold may; omega))) ?_)
  all_goals
    repeat' first
      | (with_reducible first | refine NeedI.mk (fun h => h) ?_ | refine NeedI.mk (fun h => h.2) ?_ | refine NeedI.mk (fun h => h.1) ?_ | (show Done; exact Done.mk) | refine Both.mk (fun _ => ?_) (fun _ => ?_) | refine Both2.mk (fun _ => ?_) ?_ | (refine Need.mk ?_ ?_; (with_reducible exact Nat.le_of_eq (Nat.zero_add _))))
      | ((with_reducible refine Need.mk ?_ ?_); exact CEq.refl _)
      | ((with_reducible fail_if_success first | refine LoopVC.mk ?_ | refine Need.mk ?_ ?_ | refine CallVC.mk ?_ | refine LoopEnd.mk ?_ | refine Out.mk ?_ | show False | refine NeedI.mk ?_ ?_); conv => whnf)
end
end Lk.S04
namespace Lk.S04
open Go Lk Lk.C Lk.S03
set_option maxHeartbeats 8000000 in
set_option maxRecDepth 100000 in
theorem sl_Clone_device_Request_ok {P : Program} {F : Nat → Nat} (hm : P.follows .mixedOrders = true) (hk : sl_Clone_device_Request_k P F) (n : Nat) (f : Nat → Nat → Cell) (hn : n ≤ 1000000) : FnOk P (F 189) [.one (.sl 4 n f)] [.one (.ow 4 n f)] := by
  refine fnOk hm hk ?_
  repeat' first
    | (with_reducible first | refine NeedI.mk (fun h => h) ?_ | refine NeedI.mk (fun h => h.2) ?_ | refine NeedI.mk (fun h => h.1) ?_ | (show Done; exact Done.mk) | refine Both.mk (fun _ => ?_) (fun _ => ?_) | refine Both2.mk (fun _ => ?_) ?_ | (refine Need.mk ?_ ?_; (first | assumption | omega | with_reducible exact CEq.refl _ | exact ⟨rfl, rfl⟩ | exact Nat.zero_add _ | exact (Nat.zero_add _).symm | exact ⟨rfl, Nat.le_refl _, (Nat.zero_add _).symm⟩ | exact appC_zero)))
    | ((with_reducible fail_if_success first | refine LoopVC.mk ?_ | refine Need.mk ?_ ?_ | refine CallVC.mk ?_ | refine LoopEnd.mk ?_ | refine Out.mk ?_ | show False | refine NeedI.mk ?_ ?_); conv => whnf)
set_option maxHeartbeats 8000000 in
set_option maxRecDepth 100000 in
theorem sl_Grow_device_Request_ok {P : Program} {F : Nat → Nat} (hm : P.follows .mixedOrders = true) (hk : sl_Grow_device_Request_k P F) (n : Nat) (hn : n ≤ 1000000) :
    FnOk P (F 150) [.nil 4, .one (.int .i64 n)] [.one (.ow 4 0 fun _ _ => .bool false)] := by
  refine fnOk hm hk ?_
  repeat' first
    | (with_reducible first | refine NeedI.mk (fun h => h) ?_ | refine NeedI.mk (fun h => h.2) ?_ | refine NeedI.mk (fun h => h.1) ?_ | (show Done; exact Done.mk) | refine Both.mk (fun _ => ?_) (fun _ => ?_) | refine Both2.mk (fun _ => ?_) ?_ | (refine Need.mk ?_ ?_; (first | omega | with_reducible exact CEq.refl _ | (dsimp only; omega) | (dsimp only [rng]; omega) | (simp only [decide_eq_true_eq, decide_eq_false_iff_not, Bool.or_eq_true, Bool.and_eq_true, Bool.or_eq_false_iff, Int.toNat_natCast, addN_eq, cond_false, cond_true, rng] at *; omega) | exact ⟨rfl, rfl⟩)))
    | ((with_reducible refine Need.mk ?_ ?_); exact CEq.refl _)
    | ((with_reducible fail_if_success first | refine LoopVC.mk ?_ | refine Need.mk ?_ ?_ | refine CallVC.mk ?_ | refine LoopEnd.mk ?_ | refine Out.mk ?_ | show False | refine NeedI.mk ?_ ?_); conv => whnf)
  · rename_i h
    have h := of_decide_eq_true h
    omega
set_option maxHeartbeats 8000000 in
set_option maxRecDepth 100000 in
theorem sl_Concat_device_Request_ok {P : Program} {F : Nat → Nat} (hm : P.follows .mixedOrders = true) (hk : sl_Concat_device_Request_k P F) (hg : sl_Grow_device_Request_k P F) (n0 n1 : Nat) (f0 f1 : Nat → Nat → Cell) (h : n0 + n1 ≤ 1000000) :
    FnOk P (F 146) [.one (.sl 1 2 (twoC (.sl 4 n0 f0) (.sl 4 n1 f1)))] [.one (.ow 4 (n0 + n1) (appC f0 n0 f1))] := by
  refine fnOk hm hk ?_
  repeat' first
    | (with_reducible first | refine NeedI.mk (fun h => h) ?_ | refine NeedI.mk (fun h => h.2) ?_ | refine NeedI.mk (fun h => h.1) ?_ | (show Done; exact Done.mk) | refine Both.mk (fun _ => ?_) (fun _ => ?_) | refine Both2.mk (fun _ => ?_) ?_ | (refine Need.mk ?_ ?_; (first | omega | with_reducible exact CEq.refl _ | (dsimp only; omega) | (dsimp only [rng]; omega) | (simp only [decide_eq_true_eq, decide_eq_false_iff_not, Bool.or_eq_true, Bool.and_eq_true, Bool.or_eq_false_iff, Int.toNat_natCast, addN_eq, cond_false, cond_true, rng] at *; omega) | exact ⟨rfl, rfl⟩)))
    | ((with_reducible refine Need.mk ?_ ?_); exact CEq.refl _)
    | ((with_reducible fail_if_success first | refine LoopVC.mk ?_ | refine Need.mk ?_ ?_ | refine CallVC.mk ?_ | refine LoopEnd.mk ?_ | refine Out.mk ?_ | show False | refine NeedI.mk ?_ ?_); conv => whnf)
  refine LoopVC.inv (fun i : Nat => i ≤ 2) (fun i => stL [(0, .c (.sl 1 2 (twoC (.sl 4 n0 f0) (.sl 4 n1 f1)))), (3, .c (.int .i64 (twoS n0 n1 i))), (9, .c (.sl 1 2 (twoC (.sl 4 n0 f0) (.sl 4 n1 f1)))), (10, .c (.int .i64 2)), (11, .c (.int .i64 i))] [])
    (fun i => 2 - i) 0 (by omega) ?_ ?_
  · (refine Le.of ?_ ?_ <;> repeat' first | exact trivial | exact CEq.refl _ | exact rfl | exact cI (by push_cast; first | rfl | omega) | exact SubE.dat fun _ _ _ _ => CEq.refl _ | refine SubE.var2 ?_ ?_ | refine SubE.var1 ?_ | refine SubE.var3 ?_ ?_ ?_ | refine SubE.var4 ?_ ?_ ?_ ?_ | refine SubE.var5 ?_ ?_ ?_ ?_ ?_ | refine Exists.intro _ (And.intro rfl ?_) | refine And.intro ?_ ?_)
  · have e0 : twoS n0 n1 0 = 0 := rfl
    have e1 : twoS n0 n1 1 = n0 := rfl
    have e2 : twoS n0 n1 2 = n0 + n1 := rfl
    have g0 : twoN n0 n1 0 = 0 := rfl
    have g1 : twoN n0 n1 1 = 0 + n0 := rfl
    have g2 : twoN n0 n1 2 = 0 + n0 + n1 := rfl
    rintro Q hQ i hi
    rcases (show i = 0 ∨ i = 1 ∨ i = 2 by omega) with rfl | rfl | rfl
    · repeat' first
        | (with_reducible first | refine NeedI.mk (fun h => h) ?_ | refine NeedI.mk (fun h => h.2) ?_ | refine NeedI.mk (fun h => h.1) ?_ | (show Done; exact Done.mk) | refine Both.mk (fun _ => ?_) (fun _ => ?_) | refine Both2.mk (fun _ => ?_) ?_ | (refine Need.mk ?_ ?_; (first | omega | with_reducible exact CEq.refl _ | (dsimp only; omega) | (dsimp only [rng]; omega) | (simp only [decide_eq_true_eq, decide_eq_false_iff_not, Bool.or_eq_true, Bool.and_eq_true, Bool.or_eq_false_iff, Int.toNat_natCast, addN_eq, cond_false, cond_true, rng] at *; omega) | exact ⟨rfl, rfl⟩)))
        | ((with_reducible refine Need.mk ?_ ?_); exact CEq.refl _)
        | ((with_reducible fail_if_success first | refine LoopVC.mk ?_ | refine Need.mk ?_ ?_ | refine CallVC.mk ?_ | refine LoopEnd.mk ?_ | refine Out.mk ?_ | show False | refine NeedI.mk ?_ ?_); conv => whnf)
      · rename_i h1 h2
        have h2 := of_decide_eq_true h2
        omega
      · refine LoopEnd.mk ⟨1, by omega, by omega, ?_⟩
        (refine Le.of ?_ ?_ <;> repeat' first | exact trivial | exact CEq.refl _ | exact rfl | exact cI (by push_cast; first | rfl | omega) | exact SubE.dat fun _ _ _ _ => CEq.refl _ | refine SubE.var2 ?_ ?_ | refine SubE.var1 ?_ | refine SubE.var3 ?_ ?_ ?_ | refine SubE.var4 ?_ ?_ ?_ ?_ | refine SubE.var5 ?_ ?_ ?_ ?_ ?_ | refine Exists.intro _ (And.intro rfl ?_) | refine And.intro ?_ ?_)
        all_goals exact cI (by omega)
      · rename_i h1
        exact absurd h1 (by decide)
    · repeat' first
        | (with_reducible first | refine NeedI.mk (fun h => h) ?_ | refine NeedI.mk (fun h => h.2) ?_ | refine NeedI.mk (fun h => h.1) ?_ | (show Done; exact Done.mk) | refine Both.mk (fun _ => ?_) (fun _ => ?_) | refine Both2.mk (fun _ => ?_) ?_ | (refine Need.mk ?_ ?_; (first | omega | with_reducible exact CEq.refl _ | (dsimp only; omega) | (dsimp only [rng]; omega) | (simp only [decide_eq_true_eq, decide_eq_false_iff_not, Bool.or_eq_true, Bool.and_eq_true, Bool.or_eq_false_iff, Int.toNat_natCast, addN_eq, cond_false, cond_true, rng] at *; omega) | exact ⟨rfl, rfl⟩)))
        | ((with_reducible refine Need.mk ?_ ?_); exact CEq.refl _)
        | ((with_reducible fail_if_success first | refine LoopVC.mk ?_ | refine Need.mk ?_ ?_ | refine CallVC.mk ?_ | refine LoopEnd.mk ?_ | refine Out.mk ?_ | show False | refine NeedI.mk ?_ ?_); conv => whnf)
      · rename_i h1 h2
        have h2 := of_decide_eq_true h2
        omega
      · refine LoopEnd.mk ⟨2, by omega, by omega, ?_⟩
        (refine Le.of ?_ ?_ <;> repeat' first | exact trivial | exact CEq.refl _ | exact rfl | exact cI (by push_cast; first | rfl | omega) | exact SubE.dat fun _ _ _ _ => CEq.refl _ | refine SubE.var2 ?_ ?_ | refine SubE.var1 ?_ | refine SubE.var3 ?_ ?_ ?_ | refine SubE.var4 ?_ ?_ ?_ ?_ | refine SubE.var5 ?_ ?_ ?_ ?_ ?_ | refine Exists.intro _ (And.intro rfl ?_) | refine And.intro ?_ ?_)
        all_goals exact cI (by omega)
      · rename_i h1
        exact absurd h1 (by decide)
    · repeat' first
        | (with_reducible first | refine NeedI.mk (fun h => h) ?_ | refine NeedI.mk (fun h => h.2) ?_ | refine NeedI.mk (fun h => h.1) ?_ | (show Done; exact Done.mk) | refine Both.mk (fun _ => ?_) (fun _ => ?_) | refine Both2.mk (fun _ => ?_) ?_ | (refine Need.mk ?_ ?_; (first | omega | with_reducible exact CEq.refl _ | (dsimp only; omega) | (dsimp only [rng]; omega) | (simp only [decide_eq_true_eq, decide_eq_false_iff_not, Bool.or_eq_true, Bool.and_eq_true, Bool.or_eq_false_iff, Int.toNat_natCast, addN_eq, cond_false, cond_true, rng] at *; omega) | exact ⟨rfl, rfl⟩)))
        | ((with_reducible refine Need.mk ?_ ?_); exact CEq.refl _)
        | ((with_reducible fail_if_success first | refine LoopVC.mk ?_ | refine Need.mk ?_ ?_ | refine CallVC.mk ?_ | refine LoopEnd.mk ?_ | refine Out.mk ?_ | show False | refine NeedI.mk ?_ ?_); conv => whnf)
      · rename_i h1 h2
        exact absurd h1 (by decide)
      · rename_i h1 h2
        exact absurd h1 (by decide)
      refine Out.mk (hQ _ _ ?_)
      repeat' first
        | (with_reducible first | refine NeedI.mk (fun h => h) ?_ | refine NeedI.mk (fun h => h.2) ?_ | refine NeedI.mk (fun h => h.1) ?_ | (show Done; exact Done.mk) | refine Both.mk (fun _ => ?_) (fun _ => ?_) | refine Both2.mk (fun _ => ?_) ?_ | (refine Need.mk ?_ ?_; (first | omega | with_reducible exact CEq.refl _ | (dsimp only; omega) | (dsimp only [rng]; omega) | (simp only [decide_eq_true_eq, decide_eq_false_iff_not, Bool.or_eq_true, Bool.and_eq_true, Bool.or_eq_false_iff, Int.toNat_natCast, addN_eq, cond_false, cond_true, rng] at *; omega) | exact ⟨rfl, rfl⟩)))
        | ((with_reducible refine Need.mk ?_ ?_); exact CEq.refl _)
        | ((with_reducible fail_if_success first | refine LoopVC.mk ?_ | refine Need.mk ?_ ?_ | refine CallVC.mk ?_ | refine LoopEnd.mk ?_ | refine Out.mk ?_ | show False | refine NeedI.mk ?_ ?_); conv => whnf)
      refine CallVC.mk' (fun _ => sl_Grow_device_Request_ok hm hg (n0 + n1) h) (fun _ => .cons .nil (.cons (.one (eI (by show ((n0 : Int) + n1) = ((n0 + n1 : Nat) : Int); push_cast; rfl))) .nil)) ?_
      repeat' first
        | (with_reducible first | refine NeedI.mk (fun h => h) ?_ | refine NeedI.mk (fun h => h.2) ?_ | refine NeedI.mk (fun h => h.1) ?_ | (show Done; exact Done.mk) | refine Both.mk (fun _ => ?_) (fun _ => ?_) | refine Both2.mk (fun _ => ?_) ?_ | (refine Need.mk ?_ ?_; (first | omega | with_reducible exact CEq.refl _ | (dsimp only; omega) | (dsimp only [rng]; omega) | (simp only [decide_eq_true_eq, decide_eq_false_iff_not, Bool.or_eq_true, Bool.and_eq_true, Bool.or_eq_false_iff, Int.toNat_natCast, addN_eq, cond_false, cond_true, rng] at *; omega) | exact ⟨rfl, rfl⟩)))
        | ((with_reducible refine Need.mk ?_ ?_); exact CEq.refl _)
        | ((with_reducible fail_if_success first | refine LoopVC.mk ?_ | refine Need.mk ?_ ?_ | refine CallVC.mk ?_ | refine LoopEnd.mk ?_ | refine Out.mk ?_ | show False | refine NeedI.mk ?_ ?_); conv => whnf)
      refine LoopVC.inv (fun i : Nat => i ≤ 2) (fun i => stL [(6, .os 1024 0 4 0 (twoN n0 n1 i)), (25, .c (.sl 1 2 (twoC (.sl 4 n0 f0) (.sl 4 n1 f1)))), (26, .c (.int .i64 2)), (27, .c (.int .i64 i))] [(1024, ⟨4, twoN n0 n1 i, .dat (twoF n0 f0 f1 i), false, true⟩)])
        (fun i => 2 - i) 0 (by omega) ?_ ?_
      · (refine Le.of ?_ ?_ <;> repeat' first | exact trivial | exact CEq.refl _ | exact rfl | exact cI (by push_cast; first | rfl | omega) | exact SubE.dat fun _ _ _ _ => CEq.refl _ | refine SubE.var2 ?_ ?_ | refine SubE.var1 ?_ | refine SubE.var3 ?_ ?_ ?_ | refine SubE.var4 ?_ ?_ ?_ ?_ | refine SubE.var5 ?_ ?_ ?_ ?_ ?_ | refine Exists.intro _ (And.intro rfl ?_) | refine And.intro ?_ ?_)
      · rintro Q2 hQ2 i hi
        rcases (show i = 0 ∨ i = 1 ∨ i = 2 by omega) with rfl | rfl | rfl
        · repeat' first
            | (with_reducible first | refine NeedI.mk (fun h => h) ?_ | refine NeedI.mk (fun h => h.2) ?_ | refine NeedI.mk (fun h => h.1) ?_ | (show Done; exact Done.mk) | refine Both.mk (fun _ => ?_) (fun _ => ?_) | refine Both2.mk (fun _ => ?_) ?_ | (refine Need.mk ?_ ?_; (first | omega | with_reducible exact CEq.refl _ | (dsimp only; omega) | (dsimp only [rng]; omega) | (simp only [decide_eq_true_eq, decide_eq_false_iff_not, Bool.or_eq_true, Bool.and_eq_true, Bool.or_eq_false_iff, Int.toNat_natCast, addN_eq, cond_false, cond_true, rng] at *; omega) | exact ⟨rfl, rfl⟩)))
            | ((with_reducible refine Need.mk ?_ ?_); exact CEq.refl _)
            | ((with_reducible fail_if_success first | refine LoopVC.mk ?_ | refine Need.mk ?_ ?_ | refine CallVC.mk ?_ | refine LoopEnd.mk ?_ | refine Out.mk ?_ | show False | refine NeedI.mk ?_ ?_); conv => whnf)
          · refine LoopEnd.mk ⟨1, by omega, by omega, ?_⟩
            (refine Le.of ?_ ?_ <;> repeat' first | exact trivial | exact CEq.refl _ | exact rfl | exact cI (by push_cast; first | rfl | omega) | exact SubE.dat fun _ _ _ _ => CEq.refl _ | refine SubE.var2 ?_ ?_ | refine SubE.var1 ?_ | refine SubE.var3 ?_ ?_ ?_ | refine SubE.var4 ?_ ?_ ?_ ?_ | refine SubE.var5 ?_ ?_ ?_ ?_ ?_ | refine Exists.intro _ (And.intro rfl ?_) | refine And.intro ?_ ?_)
          · rename_i h1
            exact absurd h1 (by decide)
        · repeat' first
            | (with_reducible first | refine NeedI.mk (fun h => h) ?_ | refine NeedI.mk (fun h => h.2) ?_ | refine NeedI.mk (fun h => h.1) ?_ | (show Done; exact Done.mk) | refine Both.mk (fun _ => ?_) (fun _ => ?_) | refine Both2.mk (fun _ => ?_) ?_ | (refine Need.mk ?_ ?_; (first | omega | with_reducible exact CEq.refl _ | (dsimp only; omega) | (dsimp only [rng]; omega) | (simp only [decide_eq_true_eq, decide_eq_false_iff_not, Bool.or_eq_true, Bool.and_eq_true, Bool.or_eq_false_iff, Int.toNat_natCast, addN_eq, cond_false, cond_true, rng] at *; omega) | exact ⟨rfl, rfl⟩)))
            | ((with_reducible refine Need.mk ?_ ?_); exact CEq.refl _)
            | ((with_reducible fail_if_success first | refine LoopVC.mk ?_ | refine Need.mk ?_ ?_ | refine CallVC.mk ?_ | refine LoopEnd.mk ?_ | refine Out.mk ?_ | show False | refine NeedI.mk ?_ ?_); conv => whnf)
          · refine LoopEnd.mk ⟨2, by omega, by omega, ?_⟩
            (refine Le.of ?_ ?_ <;> repeat' first | exact trivial | exact CEq.refl _ | exact rfl | exact cI (by push_cast; first | rfl | omega) | exact SubE.dat fun _ _ _ _ => CEq.refl _ | refine SubE.var2 ?_ ?_ | refine SubE.var1 ?_ | refine SubE.var3 ?_ ?_ ?_ | refine SubE.var4 ?_ ?_ ?_ ?_ | refine SubE.var5 ?_ ?_ ?_ ?_ ?_ | refine Exists.intro _ (And.intro rfl ?_) | refine And.intro ?_ ?_)
            exact SubE.dat fun r hr j hj => by
              show CEq (appC f0 (0 + n0) f1 r j) (appC f0 n0 f1 r j)
              rw [Nat.zero_add]
              exact CEq.refl _
          · rename_i h1
            exact absurd h1 (by decide)
        · repeat' first
            | (with_reducible first | refine NeedI.mk (fun h => h) ?_ | refine NeedI.mk (fun h => h.2) ?_ | refine NeedI.mk (fun h => h.1) ?_ | (show Done; exact Done.mk) | refine Both.mk (fun _ => ?_) (fun _ => ?_) | refine Both2.mk (fun _ => ?_) ?_ | (refine Need.mk ?_ ?_; (first | omega | with_reducible exact CEq.refl _ | (dsimp only; omega) | (dsimp only [rng]; omega) | (simp only [decide_eq_true_eq, decide_eq_false_iff_not, Bool.or_eq_true, Bool.and_eq_true, Bool.or_eq_false_iff, Int.toNat_natCast, addN_eq, cond_false, cond_true, rng] at *; omega) | exact ⟨rfl, rfl⟩)))
            | ((with_reducible refine Need.mk ?_ ?_); exact CEq.refl _)
            | ((with_reducible fail_if_success first | refine LoopVC.mk ?_ | refine Need.mk ?_ ?_ | refine CallVC.mk ?_ | refine LoopEnd.mk ?_ | refine Out.mk ?_ | show False | refine NeedI.mk ?_ ?_); conv => whnf)
          · rename_i h1
            exact absurd h1 (by decide)
          refine Out.mk (hQ2 _ _ ?_)
          repeat' first
            | (with_reducible first | refine NeedI.mk (fun h => h) ?_ | refine NeedI.mk (fun h => h.2) ?_ | refine NeedI.mk (fun h => h.1) ?_ | (show Done; exact Done.mk) | refine Both.mk (fun _ => ?_) (fun _ => ?_) | refine Both2.mk (fun _ => ?_) ?_ | (refine Need.mk ?_ ?_; (first | omega | with_reducible exact CEq.refl _ | (dsimp only; omega) | (dsimp only [rng]; omega) | (simp only [decide_eq_true_eq, decide_eq_false_iff_not, Bool.or_eq_true, Bool.and_eq_true, Bool.or_eq_false_iff, Int.toNat_natCast, addN_eq, cond_false, cond_true, rng] at *; omega) | exact ⟨rfl, rfl⟩)))
            | ((with_reducible refine Need.mk ?_ ?_); exact CEq.refl _)
            | ((with_reducible fail_if_success first | refine LoopVC.mk ?_ | refine Need.mk ?_ ?_ | refine CallVC.mk ?_ | refine LoopEnd.mk ?_ | refine Out.mk ?_ | show False | refine NeedI.mk ?_ ?_); conv => whnf)
          refine Need.mk (fun i _ j _ => CEq.refl _) ?_
          repeat' first
            | (with_reducible first | refine NeedI.mk (fun h => h) ?_ | refine NeedI.mk (fun h => h.2) ?_ | refine NeedI.mk (fun h => h.1) ?_ | (show Done; exact Done.mk) | refine Both.mk (fun _ => ?_) (fun _ => ?_) | refine Both2.mk (fun _ => ?_) ?_ | (refine Need.mk ?_ ?_; (first | omega | with_reducible exact CEq.refl _ | (dsimp only; omega) | (dsimp only [rng]; omega) | (simp only [decide_eq_true_eq, decide_eq_false_iff_not, Bool.or_eq_true, Bool.and_eq_true, Bool.or_eq_false_iff, Int.toNat_natCast, addN_eq, cond_false, cond_true, rng] at *; omega) | exact ⟨rfl, rfl⟩)))
            | ((with_reducible refine Need.mk ?_ ?_); exact CEq.refl _)
            | ((with_reducible fail_if_success first | refine LoopVC.mk ?_ | refine Need.mk ?_ ?_ | refine CallVC.mk ?_ | refine LoopEnd.mk ?_ | refine Out.mk ?_ | show False | refine NeedI.mk ?_ ?_); conv => whnf)
section
variable {P : Program} {F : Nat → Nat}
/-- What a device needs of the program. -/
structure KDev (P : Program) (F : Nat → Nat) : Prop where
  k : KDisk P F
  rd : ∀ (d : Dsk) (at_ : Int), Small d → FnOk P (F 37) [.many 2 (dskE d), .one (.int .i64 at_)] [.one (.im (.str (d.rd at_).1)), .one (.im (.int .i64 (d.rd at_).2))]
  home : device_home_k P F
  request : device_request_k P F
  right : device_Right_k P F
  put : device_put_k P F
  submit : device_Submit_k P F
  finish : device_Finish_k P F
  crash : device_Crash_k P F
  clone : sl_Clone_device_Request_k P F
  concat : sl_Concat_device_Request_k P F
  grow : sl_Grow_device_Request_k P F
set_option maxHeartbeats 8000000 in
set_option maxRecDepth 100000 in
theorem right_ok (K : KDev P F) (d : Dv) (S : SmallV d) : FnOk P (F 145) [.many 4 (dvE d)] [.one (.im (.bool (decide (rightV d))))] := by
  refine fnOk K.k.m K.right ?_
  have hs := S.k.s
  have hf := S.f
  repeat' first
    | (with_reducible first | refine NeedI.mk (fun h => h) ?_ | refine NeedI.mk (fun h => h.2) ?_ | refine NeedI.mk (fun h => h.1) ?_ | (show Done; exact Done.mk) | refine Both.mk (fun _ => ?_) (fun _ => ?_) | refine Both2.mk (fun _ => ?_) ?_ | (refine Need.mk ?_ ?_; (first | omega | with_reducible exact CEq.refl _ | (dsimp only; omega) | (dsimp only [rng]; omega) | (rw [Int.toNat_natCast]; omega))))
    | ((with_reducible refine Need.mk ?_ ?_); exact CEq.refl _)
    | ((with_reducible fail_if_success first | refine LoopVC.mk ?_ | refine Need.mk ?_ ?_ | refine CallVC.mk ?_ | refine LoopEnd.mk ?_ | refine Out.mk ?_ | show False | refine NeedI.mk ?_ ?_); conv => whnf)
  refine CallVC.mk' (fun _ => S03.right_ok K.k.m K.k.right K.k.fits d.disk S.k.s S.k.c S.k.ls S.k.lc) (fun _ => .cons ((.many fun j hj => by (rcases (show j = 0 ∨ j = 1 by omega) with rfl | rfl <;> exact CEq.refl _))) .nil) ?_
  repeat' first
    | (with_reducible first | refine NeedI.mk (fun h => h) ?_ | refine NeedI.mk (fun h => h.2) ?_ | refine NeedI.mk (fun h => h.1) ?_ | (show Done; exact Done.mk) | refine Both.mk (fun _ => ?_) (fun _ => ?_) | refine Both2.mk (fun _ => ?_) ?_ | (refine Need.mk ?_ ?_; (first | omega | with_reducible exact CEq.refl _ | (dsimp only; omega) | (dsimp only [rng]; omega) | (rw [Int.toNat_natCast]; omega))))
    | ((with_reducible refine Need.mk ?_ ?_); exact CEq.refl _)
    | ((with_reducible fail_if_success first | refine LoopVC.mk ?_ | refine Need.mk ?_ ?_ | refine CallVC.mk ?_ | refine LoopEnd.mk ?_ | refine Out.mk ?_ | show False | refine NeedI.mk ?_ ?_); conv => whnf)
  · rename_i h
    rw [decide_eq_false (fun x : rightV d => by
      obtain ⟨⟨a, b⟩, -⟩ := x
      rw [decide_eq_true a] at h
      simp only [Bool.not_true, Bool.false_or, decide_eq_true_eq] at h; omega)]
    repeat' first
      | (with_reducible first | refine NeedI.mk (fun h => h) ?_ | refine NeedI.mk (fun h => h.2) ?_ | refine NeedI.mk (fun h => h.1) ?_ | (show Done; exact Done.mk) | refine Both.mk (fun _ => ?_) (fun _ => ?_) | refine Both2.mk (fun _ => ?_) ?_ | (refine Need.mk ?_ ?_; (with_reducible exact Nat.le_of_eq (Nat.zero_add _))))
      | ((with_reducible refine Need.mk ?_ ?_); exact CEq.refl _)
      | ((with_reducible fail_if_success first | refine LoopVC.mk ?_ | refine Need.mk ?_ ?_ | refine CallVC.mk ?_ | refine LoopEnd.mk ?_ | refine Out.mk ?_ | show False | refine NeedI.mk ?_ ?_); conv => whnf)
  · rename_i h0 h
    rw [decide_eq_false (fun x : rightV d => by
      obtain ⟨-, ⟨a, b, c⟩, -⟩ := x
      simp only [Bool.or_eq_true, decide_eq_true_eq] at h; omega)]
    repeat' first
      | (with_reducible first | refine NeedI.mk (fun h => h) ?_ | refine NeedI.mk (fun h => h.2) ?_ | refine NeedI.mk (fun h => h.1) ?_ | (show Done; exact Done.mk) | refine Both.mk (fun _ => ?_) (fun _ => ?_) | refine Both2.mk (fun _ => ?_) ?_ | (refine Need.mk ?_ ?_; (with_reducible exact Nat.le_of_eq (Nat.zero_add _))))
      | ((with_reducible refine Need.mk ?_ ?_); exact CEq.refl _)
      | ((with_reducible fail_if_success first | refine LoopVC.mk ?_ | refine Need.mk ?_ ?_ | refine CallVC.mk ?_ | refine LoopEnd.mk ?_ | refine Out.mk ?_ | show False | refine NeedI.mk ?_ ?_); conv => whnf)
  rename_i h0 h
  simp only [Bool.or_eq_false_iff, Bool.not_eq_false', decide_eq_true_eq, decide_eq_false_iff_not] at h0 h
  refine LoopVC.inv (fun i : Nat => i ≤ d.flight.length ∧ ∀ k, k < i → okAt d.next d.flight k) (fun i => stL [(1, .va 1 0 0), (3, .c (.int .i64 (ahead d.flight i))), (32, .c (slL 4 rqE d.flight)), (33, .c (.int .i64 d.flight.length)), (34, .c (.int .i64 i))]
    [(1, vE [.c (slL 1 strE d.disk.secs), .c (slL 2 wrE d.disk.cache), .c (.int .i64 d.next), .c (slL 4 rqE d.flight)])]) (fun i => d.flight.length - i) 0 ⟨Nat.zero_le _, fun k hk => by omega⟩ ?_ ?_
  · (refine Le.of ?_ ?_ <;> repeat' first | exact trivial | exact CEq.refl _ | exact rfl | exact cI (by push_cast; first | rfl | omega) | exact SubE.dat fun _ _ _ _ => CEq.refl _ | refine SubE.var2 ?_ ?_ | refine SubE.var1 ?_ | refine SubE.var3 ?_ ?_ ?_ | refine SubE.var4 ?_ ?_ ?_ ?_ | refine SubE.var5 ?_ ?_ ?_ ?_ ?_ | refine Exists.intro _ (And.intro rfl ?_) | refine And.intro ?_ ?_)
  rintro Q hQ i ⟨hi, hok⟩
  repeat' first
    | (with_reducible first | refine NeedI.mk (fun h => h) ?_ | refine NeedI.mk (fun h => h.2) ?_ | refine NeedI.mk (fun h => h.1) ?_ | (show Done; exact Done.mk) | refine Both.mk (fun _ => ?_) (fun _ => ?_) | refine Both2.mk (fun _ => ?_) ?_ | (refine Need.mk ?_ ?_; (first | omega | with_reducible exact CEq.refl _ | (dsimp only; omega) | (dsimp only [rng]; omega) | (rw [Int.toNat_natCast]; omega))))
    | ((with_reducible refine Need.mk ?_ ?_); exact CEq.refl _)
    | ((with_reducible fail_if_success first | refine LoopVC.mk ?_ | refine Need.mk ?_ ?_ | refine CallVC.mk ?_ | refine LoopEnd.mk ?_ | refine Out.mk ?_ | show False | refine NeedI.mk ?_ ?_); conv => whnf)
  · rename_i h1
    have h1 : (i : Int) < d.flight.length := of_decide_eq_true h1
    have hr := S.lf _ (getD_mem (show i < d.flight.length by omega))
    repeat' first
      | (with_reducible first | refine NeedI.mk (fun h => h) ?_ | refine NeedI.mk (fun h => h.2) ?_ | refine NeedI.mk (fun h => h.1) ?_ | (show Done; exact Done.mk) | refine Both.mk (fun _ => ?_) (fun _ => ?_) | refine Both2.mk (fun _ => ?_) ?_ | (refine Need.mk ?_ ?_; (first | omega | with_reducible exact CEq.refl _ | (dsimp only; omega) | (dsimp only [rng]; omega) | (rw [Int.toNat_natCast]; omega))))
      | ((with_reducible refine Need.mk ?_ ?_); exact CEq.refl _)
      | ((with_reducible fail_if_success first | refine LoopVC.mk ?_ | refine Need.mk ?_ ?_ | refine CallVC.mk ?_ | refine LoopEnd.mk ?_ | refine Out.mk ?_ | show False | refine NeedI.mk ?_ ?_); conv => whnf)
    · rename_i h2
      rw [Int.toNat_natCast] at h2
      simp only [Bool.or_eq_true, decide_eq_true_eq] at h2
      refine Out.mk (hQ _ _ ?_)
      rw [decide_eq_false (fun x : rightV d => by
        have := (x.2.2 i (by omega)); have := this.1; have := (x.2.2 i (by omega)).2.1
        omega)]
      repeat' first
        | (with_reducible first | refine NeedI.mk (fun h => h) ?_ | refine NeedI.mk (fun h => h.2) ?_ | refine NeedI.mk (fun h => h.1) ?_ | (show Done; exact Done.mk) | refine Both.mk (fun _ => ?_) (fun _ => ?_) | refine Both2.mk (fun _ => ?_) ?_ | (refine Need.mk ?_ ?_; (with_reducible exact Nat.le_of_eq (Nat.zero_add _))))
        | ((with_reducible refine Need.mk ?_ ?_); exact CEq.refl _)
        | ((with_reducible fail_if_success first | refine LoopVC.mk ?_ | refine Need.mk ?_ ?_ | refine CallVC.mk ?_ | refine LoopEnd.mk ?_ | refine Out.mk ?_ | show False | refine NeedI.mk ?_ ?_); conv => whnf)
    · rename_i h2
      rw [Int.toNat_natCast] at h2
      simp only [Bool.or_eq_false_iff, decide_eq_false_iff_not] at h2
      rw [Int.toNat_natCast]
      refine CallVC.mk' (fun _ => request_ok K.k.m K.request _ _ _ (by omega)) (fun _ => .cons (.one (CEq.refl _)) (.cons (.one (CEq.refl _)) (.cons (.one (CEq.refl _)) .nil))) ?_
      repeat' first
        | (with_reducible first | refine NeedI.mk (fun h => h) ?_ | refine NeedI.mk (fun h => h.2) ?_ | refine NeedI.mk (fun h => h.1) ?_ | (show Done; exact Done.mk) | refine Both.mk (fun _ => ?_) (fun _ => ?_) | refine Both2.mk (fun _ => ?_) ?_ | (refine Need.mk ?_ ?_; (first | omega | with_reducible exact CEq.refl _ | (dsimp only; omega) | (dsimp only [rng]; omega) | (rw [Int.toNat_natCast]; omega))))
        | ((with_reducible refine Need.mk ?_ ?_); exact CEq.refl _)
        | ((with_reducible fail_if_success first | refine LoopVC.mk ?_ | refine Need.mk ?_ ?_ | refine CallVC.mk ?_ | refine LoopEnd.mk ?_ | refine Out.mk ?_ | show False | refine NeedI.mk ?_ ?_); conv => whnf)
      · rename_i h3
        simp only [Bool.not_eq_true', decide_eq_false_iff_not] at h3
        refine Out.mk (hQ _ _ ?_)
        rw [decide_eq_false (fun x : rightV d => h3 (x.2.2 i (by omega)).2.2)]
        repeat' first
          | (with_reducible first | refine NeedI.mk (fun h => h) ?_ | refine NeedI.mk (fun h => h.2) ?_ | refine NeedI.mk (fun h => h.1) ?_ | (show Done; exact Done.mk) | refine Both.mk (fun _ => ?_) (fun _ => ?_) | refine Both2.mk (fun _ => ?_) ?_ | (refine Need.mk ?_ ?_; (with_reducible exact Nat.le_of_eq (Nat.zero_add _))))
          | ((with_reducible refine Need.mk ?_ ?_); exact CEq.refl _)
          | ((with_reducible fail_if_success first | refine LoopVC.mk ?_ | refine Need.mk ?_ ?_ | refine CallVC.mk ?_ | refine LoopEnd.mk ?_ | refine Out.mk ?_ | show False | refine NeedI.mk ?_ ?_); conv => whnf)
      · rename_i h3
        simp only [Bool.not_eq_false', decide_eq_true_eq] at h3
        refine LoopEnd.mk ⟨i + 1, ⟨by omega, fun k hk => ?_⟩, by omega, by (refine Le.of ?_ ?_ <;> repeat' first | exact trivial | exact CEq.refl _ | exact rfl | exact cI (by push_cast; first | rfl | omega) | exact SubE.dat fun _ _ _ _ => CEq.refl _ | refine SubE.var2 ?_ ?_ | refine SubE.var1 ?_ | refine SubE.var3 ?_ ?_ ?_ | refine SubE.var4 ?_ ?_ ?_ ?_ | refine SubE.var5 ?_ ?_ ?_ ?_ ?_ | refine Exists.intro _ (And.intro rfl ?_) | refine And.intro ?_ ?_)⟩
        rcases Nat.lt_or_ge k i with h9 | h9
        · exact hok k h9
        · obtain rfl : k = i := by omega
          exact ⟨by omega, by omega, h3⟩
  · rename_i h1
    have h1 : ¬ (i : Int) < d.flight.length := of_decide_eq_false h1
    refine Out.mk (hQ _ _ ?_)
    rw [decide_eq_true (show rightV d from ⟨⟨h0.1, by omega⟩, ⟨by omega, by omega, by omega⟩, fun k hk => hok k (by omega)⟩)]
    repeat' first
      | (with_reducible first | refine NeedI.mk (fun h => h) ?_ | refine NeedI.mk (fun h => h.2) ?_ | refine NeedI.mk (fun h => h.1) ?_ | (show Done; exact Done.mk) | refine Both.mk (fun _ => ?_) (fun _ => ?_) | refine Both2.mk (fun _ => ?_) ?_ | (refine Need.mk ?_ ?_; (with_reducible exact Nat.le_of_eq (Nat.zero_add _))))
      | ((with_reducible refine Need.mk ?_ ?_); exact CEq.refl _)
      | ((with_reducible fail_if_success first | refine LoopVC.mk ?_ | refine Need.mk ?_ ?_ | refine CallVC.mk ?_ | refine LoopEnd.mk ?_ | refine Out.mk ?_ | show False | refine NeedI.mk ?_ ?_); conv => whnf)
end
end Lk.S04
namespace Lk.S04
open Go Lk Lk.C Lk.S03
section
variable {P : Program} {F : Nat → Nat}
def dk (d : Dsk) (r : Rq) : Nat → Dsk | 0 => d | 1 => d.put (w0 r) | _ => (d.put (w0 r)).put (w1 r)
theorem half0 {s : List UInt8} : (s.take ((0 + 1 : Int) * 16).toNat).drop ((0 : Int) * 16).toNat = s.take 16 := by simp
theorem half1 {s : List UInt8} (h : s.length = 32) : (s.take ((1 + 1 : Int) * 16).toNat).drop ((1 : Int) * 16).toNat = s.drop 16 := by
  show (s.take 32).drop 16 = _
  rw [List.take_of_length_le (by omega)]
set_option maxHeartbeats 8000000 in
set_option maxRecDepth 100000 in
theorem put_ok (K : KDev P F) (d : Dsk) (r : Rq) (S : Small d) (hl : r.data.length = 32) (hp1 : 1 ≤ r.page) (hp2 : r.page ≤ 16) :
    FnOk P (F 148) [.many 2 (dskE d), .many 4 (rqE r)] [.many 2 (fun j => .im (dskE (putR d r).1 j)), .one (.im (.int .i64 (putR d r).2))] := by
  refine fnOk K.k.m K.put ?_
  repeat' first
    | (with_reducible first | refine NeedI.mk (fun h => h) ?_ | refine NeedI.mk (fun h => h.2) ?_ | refine NeedI.mk (fun h => h.1) ?_ | (show Done; exact Done.mk) | refine Both.mk (fun _ => ?_) (fun _ => ?_) | refine Both2.mk (fun _ => ?_) ?_ | (refine Need.mk ?_ ?_; (first | omega | with_reducible exact CEq.refl _ | (dsimp only; omega) | (dsimp only [rng]; omega) | (rw [Int.toNat_natCast]; omega))))
    | ((with_reducible refine Need.mk ?_ ?_); exact CEq.refl _)
    | ((with_reducible fail_if_success first | refine LoopVC.mk ?_ | refine Need.mk ?_ ?_ | refine CallVC.mk ?_ | refine LoopEnd.mk ?_ | refine Out.mk ?_ | show False | refine NeedI.mk ?_ ?_); conv => whnf)
  have S1 : Small (d.put (w0 r)) := S.put
  refine LoopVC.inv (fun i : Nat => i ≤ 2 ∧ (1 ≤ i → d.putE (w0 r) = 0) ∧ (2 ≤ i → (d.put (w0 r)).putE (w1 r) = 0)) (fun i => stL [(2, .va 2 0 0), (3, .va 3 0 0), (4, .va 4 0 0), (10, .c (.int .i64 i))]
    [(2, vE [.c (slL 1 strE (dk d r i).secs), .c (slL 2 wrE (dk d r i).cache)]), (3, vE [.c (.int .i64 r.ticket), .c (.int .i64 r.kind), .c (.int .i64 r.page), .c (.str r.data)]), (4, vE [.nil 1, .nil 2])]) (fun i => 2 - i) 0 ⟨by omega, fun h => by omega, fun h => by omega⟩ ?_ ?_
  · (refine Le.of ?_ ?_ <;> repeat' first | exact trivial | exact CEq.refl _ | exact rfl | exact cI (by push_cast; first | rfl | omega) | exact SubE.dat fun _ _ _ _ => CEq.refl _ | refine SubE.var2 ?_ ?_ | refine SubE.var1 ?_ | refine SubE.var3 ?_ ?_ ?_ | refine SubE.var4 ?_ ?_ ?_ ?_ | refine SubE.var5 ?_ ?_ ?_ ?_ ?_ | refine Exists.intro _ (And.intro rfl ?_) | refine And.intro ?_ ?_)
  rintro Q hQ i ⟨hi, e0, e1⟩
  rcases (show i = 0 ∨ i = 1 ∨ i = 2 by omega) with rfl | rfl | rfl
  · repeat' first
      | (with_reducible first | refine NeedI.mk (fun h => h) ?_ | refine NeedI.mk (fun h => h.2) ?_ | refine NeedI.mk (fun h => h.1) ?_ | (show Done; exact Done.mk) | refine Both.mk (fun _ => ?_) (fun _ => ?_) | refine Both2.mk (fun _ => ?_) ?_ | (refine Need.mk ?_ ?_; (first | omega | with_reducible exact CEq.refl _ | (dsimp only; omega) | (dsimp only [rng]; omega) | (rw [Int.toNat_natCast]; omega))))
      | ((with_reducible refine Need.mk ?_ ?_); exact CEq.refl _)
      | ((with_reducible fail_if_success first | refine LoopVC.mk ?_ | refine Need.mk ?_ ?_ | refine CallVC.mk ?_ | refine LoopEnd.mk ?_ | refine Out.mk ?_ | show False | refine NeedI.mk ?_ ?_); conv => whnf)
    · refine CallVC.mk' (fun _ => home_ok K.k.m K.home r.page (by omega) (by omega)) (fun _ => .cons (.one (CEq.refl _)) .nil) ?_
      unfold hm
      repeat' first
        | (with_reducible first | refine NeedI.mk (fun h => h) ?_ | refine NeedI.mk (fun h => h.2) ?_ | refine NeedI.mk (fun h => h.1) ?_ | (show Done; exact Done.mk) | refine Both.mk (fun _ => ?_) (fun _ => ?_) | refine Both2.mk (fun _ => ?_) ?_ | (refine Need.mk ?_ ?_; (first | omega | with_reducible exact CEq.refl _ | (dsimp only; omega) | (dsimp only [rng]; omega) | (rw [Int.toNat_natCast]; omega))))
        | ((with_reducible refine Need.mk ?_ ?_); exact CEq.refl _)
        | ((with_reducible fail_if_success first | refine LoopVC.mk ?_ | refine Need.mk ?_ ?_ | refine CallVC.mk ?_ | refine LoopEnd.mk ?_ | refine Out.mk ?_ | show False | refine NeedI.mk ?_ ?_); conv => whnf)
      refine CallVC.mk' (fun _ => S03.put_ok K.k.m K.k.put K.k.right K.k.fits K.k.cloneW (d) (w0 r) (S).s (S).c (S).ls (S).lc (by show (List.take 16 r.data).length ≤ _; simp; omega)) (fun _ => .cons ((.many fun j hj => by (rcases (show j = 0 ∨ j = 1 by omega) with rfl | rfl <;> exact CEq.refl _))) (.cons (.many fun j hj => by
        rcases (show j = 0 ∨ j = 1 by omega) with rfl | rfl
        · exact eI (by show 2 * r.page + 1 + _ = _; (try unfold w0); (try unfold w1); unfold hm; first | rfl | (simp; done) | omega)
        · exact eS (half0)) .nil)) ?_
      repeat' first
        | (with_reducible first | refine NeedI.mk (fun h => h) ?_ | refine NeedI.mk (fun h => h.2) ?_ | refine NeedI.mk (fun h => h.1) ?_ | (show Done; exact Done.mk) | refine Both.mk (fun _ => ?_) (fun _ => ?_) | refine Both2.mk (fun _ => ?_) ?_ | (refine Need.mk ?_ ?_; (first | omega | with_reducible exact CEq.refl _ | (dsimp only; omega) | (dsimp only [rng]; omega) | (rw [Int.toNat_natCast]; omega))))
        | ((with_reducible refine Need.mk ?_ ?_); exact CEq.refl _)
        | ((with_reducible fail_if_success first | refine LoopVC.mk ?_ | refine Need.mk ?_ ?_ | refine CallVC.mk ?_ | refine LoopEnd.mk ?_ | refine Out.mk ?_ | show False | refine NeedI.mk ?_ ?_); conv => whnf)
      · rename_i h1 h2
        simp only [Bool.not_eq_true', decide_eq_false_iff_not] at h2
        refine Out.mk (hQ _ _ ?_)
        rw [show putR d r = (d, 7) by unfold putR; rw [if_pos h2]]
        repeat' first
          | (with_reducible first | refine NeedI.mk (fun h => h) ?_ | refine NeedI.mk (fun h => h.2) ?_ | refine NeedI.mk (fun h => h.1) ?_ | (show Done; exact Done.mk) | refine Both.mk (fun _ => ?_) (fun _ => ?_) | refine Both2.mk (fun _ => ?_) ?_ | (refine Need.mk ?_ ?_; (first | omega | with_reducible exact CEq.refl _ | (dsimp only; omega) | (dsimp only [rng]; omega) | (rw [Int.toNat_natCast]; omega))))
          | ((with_reducible refine Need.mk ?_ ?_); exact CEq.refl _)
          | ((with_reducible fail_if_success first | refine LoopVC.mk ?_ | refine Need.mk ?_ ?_ | refine CallVC.mk ?_ | refine LoopEnd.mk ?_ | refine Out.mk ?_ | show False | refine NeedI.mk ?_ ?_); conv => whnf)
      · rename_i h1 h2
        simp only [Bool.not_eq_false', decide_eq_true_eq] at h2
        refine LoopEnd.mk ⟨1, ⟨by omega, fun _ => h2, fun h => by omega⟩, by omega, ?_⟩
        (refine Le.of ?_ ?_ <;> repeat' first | exact trivial | exact CEq.refl _ | exact rfl | exact cI (by push_cast; first | rfl | omega) | exact SubE.dat fun _ _ _ _ => CEq.refl _ | refine SubE.var2 ?_ ?_ | refine SubE.var1 ?_ | refine SubE.var3 ?_ ?_ ?_ | refine SubE.var4 ?_ ?_ ?_ ?_ | refine SubE.var5 ?_ ?_ ?_ ?_ ?_ | refine Exists.intro _ (And.intro rfl ?_) | refine And.intro ?_ ?_)
    · rename_i h1
      exact absurd h1 (by decide)
  · repeat' first
      | (with_reducible first | refine NeedI.mk (fun h => h) ?_ | refine NeedI.mk (fun h => h.2) ?_ | refine NeedI.mk (fun h => h.1) ?_ | (show Done; exact Done.mk) | refine Both.mk (fun _ => ?_) (fun _ => ?_) | refine Both2.mk (fun _ => ?_) ?_ | (refine Need.mk ?_ ?_; (first | omega | with_reducible exact CEq.refl _ | (dsimp only; omega) | (dsimp only [rng]; omega) | (rw [Int.toNat_natCast]; omega))))
      | ((with_reducible refine Need.mk ?_ ?_); exact CEq.refl _)
      | ((with_reducible fail_if_success first | refine LoopVC.mk ?_ | refine Need.mk ?_ ?_ | refine CallVC.mk ?_ | refine LoopEnd.mk ?_ | refine Out.mk ?_ | show False | refine NeedI.mk ?_ ?_); conv => whnf)
    · refine CallVC.mk' (fun _ => home_ok K.k.m K.home r.page (by omega) (by omega)) (fun _ => .cons (.one (CEq.refl _)) .nil) ?_
      unfold hm
      repeat' first
        | (with_reducible first | refine NeedI.mk (fun h => h) ?_ | refine NeedI.mk (fun h => h.2) ?_ | refine NeedI.mk (fun h => h.1) ?_ | (show Done; exact Done.mk) | refine Both.mk (fun _ => ?_) (fun _ => ?_) | refine Both2.mk (fun _ => ?_) ?_ | (refine Need.mk ?_ ?_; (first | omega | with_reducible exact CEq.refl _ | (dsimp only; omega) | (dsimp only [rng]; omega) | (rw [Int.toNat_natCast]; omega))))
        | ((with_reducible refine Need.mk ?_ ?_); exact CEq.refl _)
        | ((with_reducible fail_if_success first | refine LoopVC.mk ?_ | refine Need.mk ?_ ?_ | refine CallVC.mk ?_ | refine LoopEnd.mk ?_ | refine Out.mk ?_ | show False | refine NeedI.mk ?_ ?_); conv => whnf)
      refine CallVC.mk' (fun _ => S03.put_ok K.k.m K.k.put K.k.right K.k.fits K.k.cloneW (d.put (w0 r)) (w1 r) (S1).s (S1).c (S1).ls (S1).lc (by show (List.drop 16 r.data).length ≤ _; simp; omega)) (fun _ => .cons ((.many fun j hj => by (rcases (show j = 0 ∨ j = 1 by omega) with rfl | rfl <;> exact CEq.refl _))) (.cons (.many fun j hj => by
        rcases (show j = 0 ∨ j = 1 by omega) with rfl | rfl
        · exact eI (by show 2 * r.page + 1 + _ = _; (try unfold w0); (try unfold w1); unfold hm; first | rfl | (simp; done) | omega)
        · exact eS (half1 hl)) .nil)) ?_
      repeat' first
        | (with_reducible first | refine NeedI.mk (fun h => h) ?_ | refine NeedI.mk (fun h => h.2) ?_ | refine NeedI.mk (fun h => h.1) ?_ | (show Done; exact Done.mk) | refine Both.mk (fun _ => ?_) (fun _ => ?_) | refine Both2.mk (fun _ => ?_) ?_ | (refine Need.mk ?_ ?_; (first | omega | with_reducible exact CEq.refl _ | (dsimp only; omega) | (dsimp only [rng]; omega) | (rw [Int.toNat_natCast]; omega))))
        | ((with_reducible refine Need.mk ?_ ?_); exact CEq.refl _)
        | ((with_reducible fail_if_success first | refine LoopVC.mk ?_ | refine Need.mk ?_ ?_ | refine CallVC.mk ?_ | refine LoopEnd.mk ?_ | refine Out.mk ?_ | show False | refine NeedI.mk ?_ ?_); conv => whnf)
      · rename_i h1 h2
        simp only [Bool.not_eq_true', decide_eq_false_iff_not] at h2
        refine Out.mk (hQ _ _ ?_)
        rw [show putR d r = (d.put (w0 r), 7) by unfold putR; rw [if_neg (by rw [e0 (by omega)]; simp), if_pos h2]]
        repeat' first
          | (with_reducible first | refine NeedI.mk (fun h => h) ?_ | refine NeedI.mk (fun h => h.2) ?_ | refine NeedI.mk (fun h => h.1) ?_ | (show Done; exact Done.mk) | refine Both.mk (fun _ => ?_) (fun _ => ?_) | refine Both2.mk (fun _ => ?_) ?_ | (refine Need.mk ?_ ?_; (first | omega | with_reducible exact CEq.refl _ | (dsimp only; omega) | (dsimp only [rng]; omega) | (rw [Int.toNat_natCast]; omega))))
          | ((with_reducible refine Need.mk ?_ ?_); exact CEq.refl _)
          | ((with_reducible fail_if_success first | refine LoopVC.mk ?_ | refine Need.mk ?_ ?_ | refine CallVC.mk ?_ | refine LoopEnd.mk ?_ | refine Out.mk ?_ | show False | refine NeedI.mk ?_ ?_); conv => whnf)
      · rename_i h1 h2
        simp only [Bool.not_eq_false', decide_eq_true_eq] at h2
        refine LoopEnd.mk ⟨2, ⟨by omega, fun _ => e0 (by omega), fun _ => h2⟩, by omega, ?_⟩
        (refine Le.of ?_ ?_ <;> repeat' first | exact trivial | exact CEq.refl _ | exact rfl | exact cI (by push_cast; first | rfl | omega) | exact SubE.dat fun _ _ _ _ => CEq.refl _ | refine SubE.var2 ?_ ?_ | refine SubE.var1 ?_ | refine SubE.var3 ?_ ?_ ?_ | refine SubE.var4 ?_ ?_ ?_ ?_ | refine SubE.var5 ?_ ?_ ?_ ?_ ?_ | refine Exists.intro _ (And.intro rfl ?_) | refine And.intro ?_ ?_)
    · rename_i h1
      exact absurd h1 (by decide)
  · repeat' first
      | (with_reducible first | refine NeedI.mk (fun h => h) ?_ | refine NeedI.mk (fun h => h.2) ?_ | refine NeedI.mk (fun h => h.1) ?_ | (show Done; exact Done.mk) | refine Both.mk (fun _ => ?_) (fun _ => ?_) | refine Both2.mk (fun _ => ?_) ?_ | (refine Need.mk ?_ ?_; (first | omega | with_reducible exact CEq.refl _ | (dsimp only; omega) | (dsimp only [rng]; omega) | (rw [Int.toNat_natCast]; omega))))
      | ((with_reducible refine Need.mk ?_ ?_); exact CEq.refl _)
      | ((with_reducible fail_if_success first | refine LoopVC.mk ?_ | refine Need.mk ?_ ?_ | refine CallVC.mk ?_ | refine LoopEnd.mk ?_ | refine Out.mk ?_ | show False | refine NeedI.mk ?_ ?_); conv => whnf)
    · rename_i h1
      exact absurd h1 (by decide)
    · refine Out.mk (hQ _ _ ?_)
      rw [show putR d r = ((d.put (w0 r)).put (w1 r), 0) by unfold putR; rw [if_neg (by rw [e0 (by omega)]; simp), if_neg (by rw [e1 (by omega)]; simp)]]
      repeat' first
        | (with_reducible first | refine NeedI.mk (fun h => h) ?_ | refine NeedI.mk (fun h => h.2) ?_ | refine NeedI.mk (fun h => h.1) ?_ | (show Done; exact Done.mk) | refine Both.mk (fun _ => ?_) (fun _ => ?_) | refine Both2.mk (fun _ => ?_) ?_ | (refine Need.mk ?_ ?_; (first | omega | with_reducible exact CEq.refl _ | (dsimp only; omega) | (dsimp only [rng]; omega) | (rw [Int.toNat_natCast]; omega))))
        | ((with_reducible refine Need.mk ?_ ?_); exact CEq.refl _)
        | ((with_reducible fail_if_success first | refine LoopVC.mk ?_ | refine Need.mk ?_ ?_ | refine CallVC.mk ?_ | refine LoopEnd.mk ?_ | refine Out.mk ?_ | show False | refine NeedI.mk ?_ ?_); conv => whnf)
set_option maxHeartbeats 8000000 in
set_option maxRecDepth 100000 in
theorem submit_ok (K : KDev P F) (d : Dv) (k p : Int) (s : List UInt8) (S : SmallV d) (hs : s.length ≤ 9223372036854775807) :
    FnOk P (F 168) [.many 4 (dvE d), .one (.int .i64 k), .one (.int .i64 p), .one (.str s)] [.many 4 (fun j => .im (dvE (subm d k p s).1 j)), .one (.im (.int .i64 (subm d k p s).2.1)), .one (.im (.int .i64 (subm d k p s).2.2))] := by
  refine fnOk K.k.m K.submit ?_
  have hf := S.f
  repeat' first
    | (with_reducible first | refine NeedI.mk (fun h => h) ?_ | refine NeedI.mk (fun h => h.2) ?_ | refine NeedI.mk (fun h => h.1) ?_ | (show Done; exact Done.mk) | refine Both.mk (fun _ => ?_) (fun _ => ?_) | refine Both2.mk (fun _ => ?_) ?_ | (refine Need.mk ?_ ?_; (first | omega | with_reducible exact CEq.refl _ | (dsimp only; omega) | (dsimp only [rng]; omega) | (rw [Int.toNat_natCast]; omega))))
    | ((with_reducible refine Need.mk ?_ ?_); exact CEq.refl _)
    | ((with_reducible fail_if_success first | refine LoopVC.mk ?_ | refine Need.mk ?_ ?_ | refine CallVC.mk ?_ | refine LoopEnd.mk ?_ | refine Out.mk ?_ | show False | refine NeedI.mk ?_ ?_); conv => whnf)
  refine CallVC.mk' (fun _ => right_ok K d S) (fun _ => .cons ((.many fun j hj => by (rcases (show j = 0 ∨ j = 1 ∨ j = 2 ∨ j = 3 by omega) with rfl | rfl | rfl | rfl <;> exact CEq.refl _))) .nil) ?_
  repeat' first
    | (with_reducible first | refine NeedI.mk (fun h => h) ?_ | refine NeedI.mk (fun h => h.2) ?_ | refine NeedI.mk (fun h => h.1) ?_ | (show Done; exact Done.mk) | refine Both.mk (fun _ => ?_) (fun _ => ?_) | refine Both2.mk (fun _ => ?_) ?_ | (refine Need.mk ?_ ?_; (first | omega | with_reducible exact CEq.refl _ | (dsimp only; omega) | (dsimp only [rng]; omega) | (rw [Int.toNat_natCast]; omega))))
    | ((with_reducible refine Need.mk ?_ ?_); exact CEq.refl _)
    | ((with_reducible fail_if_success first | refine LoopVC.mk ?_ | refine Need.mk ?_ ?_ | refine CallVC.mk ?_ | refine LoopEnd.mk ?_ | refine Out.mk ?_ | show False | refine NeedI.mk ?_ ?_); conv => whnf)
  refine CallVC.mk' (fun _ => request_ok K.k.m K.request k p s hs) (fun _ => .cons (.one (CEq.refl _)) (.cons (.one (CEq.refl _)) (.cons (.one (CEq.refl _)) .nil))) ?_
  repeat' first
    | (with_reducible first | refine NeedI.mk (fun h => h) ?_ | refine NeedI.mk (fun h => h.2) ?_ | refine NeedI.mk (fun h => h.1) ?_ | (show Done; exact Done.mk) | refine Both.mk (fun _ => ?_) (fun _ => ?_) | refine Both2.mk (fun _ => ?_) ?_ | (refine Need.mk ?_ ?_; (first | omega | with_reducible exact CEq.refl _ | (dsimp only; omega) | (dsimp only [rng]; omega) | (rw [Int.toNat_natCast]; omega))))
    | ((with_reducible refine Need.mk ?_ ?_); exact CEq.refl _)
    | ((with_reducible fail_if_success first | refine LoopVC.mk ?_ | refine Need.mk ?_ ?_ | refine CallVC.mk ?_ | refine LoopEnd.mk ?_ | refine Out.mk ?_ | show False | refine NeedI.mk ?_ ?_); conv => whnf)
  · rename_i h
    have h : subNo d k p s := by
      simp only [Bool.or_eq_true, Bool.not_eq_true', decide_eq_false_iff_not, decide_eq_true_eq, or_assoc] at h
      exact h
    rw [show subm d k p s = (d, 0, 1) from if_pos h]
    repeat' first
      | (with_reducible first | refine NeedI.mk (fun h => h) ?_ | refine NeedI.mk (fun h => h.2) ?_ | refine NeedI.mk (fun h => h.1) ?_ | (show Done; exact Done.mk) | refine Both.mk (fun _ => ?_) (fun _ => ?_) | refine Both2.mk (fun _ => ?_) ?_ | (refine Need.mk ?_ ?_; (first | omega | with_reducible exact CEq.refl _ | (dsimp only; omega) | (dsimp only [rng]; omega) | (rw [Int.toNat_natCast]; omega))))
      | ((with_reducible refine Need.mk ?_ ?_); exact CEq.refl _)
      | ((with_reducible fail_if_success first | refine LoopVC.mk ?_ | refine Need.mk ?_ ?_ | refine CallVC.mk ?_ | refine LoopEnd.mk ?_ | refine Out.mk ?_ | show False | refine NeedI.mk ?_ ?_); conv => whnf)
  · rename_i h0 h
    have h0 : ¬ subNo d k p s := by
      simp only [Bool.or_eq_false_iff, Bool.not_eq_false', decide_eq_false_iff_not, decide_eq_true_eq] at h0
      rintro (x | x | x)
      · exact x h0.1.1
      · exact h0.1.2 x
      · exact x h0.2
    have h := of_decide_eq_true h
    rw [show subm d k p s = (d, 0, 6) by unfold subm; rw [if_neg h0, if_pos (by omega)]]
    repeat' first
      | (with_reducible first | refine NeedI.mk (fun h => h) ?_ | refine NeedI.mk (fun h => h.2) ?_ | refine NeedI.mk (fun h => h.1) ?_ | (show Done; exact Done.mk) | refine Both.mk (fun _ => ?_) (fun _ => ?_) | refine Both2.mk (fun _ => ?_) ?_ | (refine Need.mk ?_ ?_; (first | omega | with_reducible exact CEq.refl _ | (dsimp only; omega) | (dsimp only [rng]; omega) | (rw [Int.toNat_natCast]; omega))))
      | ((with_reducible refine Need.mk ?_ ?_); exact CEq.refl _)
      | ((with_reducible fail_if_success first | refine LoopVC.mk ?_ | refine Need.mk ?_ ?_ | refine CallVC.mk ?_ | refine LoopEnd.mk ?_ | refine Out.mk ?_ | show False | refine NeedI.mk ?_ ?_); conv => whnf)
  rename_i h0 h
  have h0 : ¬ subNo d k p s := by
    simp only [Bool.or_eq_false_iff, Bool.not_eq_false', decide_eq_false_iff_not, decide_eq_true_eq] at h0
    rintro (x | x | x)
    · exact x h0.1.1
    · exact h0.1.2 x
    · exact x h0.2
  have h := of_decide_eq_false h
  rw [show subm d k p s = (⟨d.disk, d.next + 1, d.flight ++ [⟨d.next, k, p, s⟩]⟩, d.next, 0) by unfold subm; rw [if_neg h0, if_neg (by omega)]]
  have hv : rightV d := Classical.byContradiction fun x => h0 (.inl x)
  have hn := hv.2.1
  refine CallVC.mk' (fun _ => sl_Clone_device_Request_ok K.k.m K.clone d.flight.length (fun i j => rqE (d.flight.getD i default) j) hf) (fun _ => .cons (.one (CEq.refl _)) .nil) ?_
  repeat' first
    | (with_reducible first | refine NeedI.mk (fun h => h) ?_ | refine NeedI.mk (fun h => h.2) ?_ | refine NeedI.mk (fun h => h.1) ?_ | (show Done; exact Done.mk) | refine Both.mk (fun _ => ?_) (fun _ => ?_) | refine Both2.mk (fun _ => ?_) ?_ | (refine Need.mk ?_ ?_; (first | omega | with_reducible exact CEq.refl _ | (dsimp only; omega) | (dsimp only [rng]; omega) | (rw [Int.toNat_natCast]; omega))))
    | ((with_reducible refine Need.mk ?_ ?_); exact CEq.refl _)
    | ((with_reducible fail_if_success first | refine LoopVC.mk ?_ | refine Need.mk ?_ ?_ | refine CallVC.mk ?_ | refine LoopEnd.mk ?_ | refine Out.mk ?_ | show False | refine NeedI.mk ?_ ?_); conv => whnf)
  refine Need.mk (((IsL.app (size := 4) (enc := rqE) (l := d.flight) IsL.refl rfl (IsL.one (x := ⟨d.next, k, p, s⟩) fun j hj => by
    rcases (show j = 0 ∨ j = 1 ∨ j = 2 ∨ j = 3 by omega) with rfl | rfl | rfl | rfl <;> exact CEq.refl _)).off).ceq (by simp)) ?_
  repeat' first
    | (with_reducible first | refine NeedI.mk (fun h => h) ?_ | refine NeedI.mk (fun h => h.2) ?_ | refine NeedI.mk (fun h => h.1) ?_ | (show Done; exact Done.mk) | refine Both.mk (fun _ => ?_) (fun _ => ?_) | refine Both2.mk (fun _ => ?_) ?_ | (refine Need.mk ?_ ?_; (first | omega | with_reducible exact CEq.refl _ | (dsimp only; omega) | (dsimp only [rng]; omega) | (rw [Int.toNat_natCast]; omega))))
    | ((with_reducible refine Need.mk ?_ ?_); exact CEq.refl _)
    | ((with_reducible fail_if_success first | refine LoopVC.mk ?_ | refine Need.mk ?_ ?_ | refine CallVC.mk ?_ | refine LoopEnd.mk ?_ | refine Out.mk ?_ | show False | refine NeedI.mk ?_ ?_); conv => whnf)
set_option maxHeartbeats 8000000 in
set_option maxRecDepth 100000 in
theorem crashV_ok (K : KDev P F) (d : Dv) (keep : List Int) (S : SmallV d) (hk : keep.length ≤ 1000000) :
    FnOk P (F 174) [.many 4 (dvE d), .one (slL 1 intE keep)] [.many 4 (fun j => .im (dvE (crashV d keep) j))] := by
  refine fnOk K.k.m K.crash ?_
  repeat' first
    | (with_reducible first | refine NeedI.mk (fun h => h) ?_ | refine NeedI.mk (fun h => h.2) ?_ | refine NeedI.mk (fun h => h.1) ?_ | (show Done; exact Done.mk) | refine Both.mk (fun _ => ?_) (fun _ => ?_) | refine Both2.mk (fun _ => ?_) ?_ | (refine Need.mk ?_ ?_; (first | omega | with_reducible exact CEq.refl _ | (dsimp only; omega) | (dsimp only [rng]; omega) | (rw [Int.toNat_natCast]; omega))))
    | ((with_reducible refine Need.mk ?_ ?_); exact CEq.refl _)
    | ((with_reducible fail_if_success first | refine LoopVC.mk ?_ | refine Need.mk ?_ ?_ | refine CallVC.mk ?_ | refine LoopEnd.mk ?_ | refine Out.mk ?_ | show False | refine NeedI.mk ?_ ?_); conv => whnf)
  refine CallVC.mk' (fun _ => right_ok K d S) (fun _ => .cons ((.many fun j hj => by (rcases (show j = 0 ∨ j = 1 ∨ j = 2 ∨ j = 3 by omega) with rfl | rfl | rfl | rfl <;> exact CEq.refl _))) .nil) ?_
  repeat' first
    | (with_reducible first | refine NeedI.mk (fun h => h) ?_ | refine NeedI.mk (fun h => h.2) ?_ | refine NeedI.mk (fun h => h.1) ?_ | (show Done; exact Done.mk) | refine Both.mk (fun _ => ?_) (fun _ => ?_) | refine Both2.mk (fun _ => ?_) ?_ | (refine Need.mk ?_ ?_; (first | omega | with_reducible exact CEq.refl _ | (dsimp only; omega) | (dsimp only [rng]; omega) | (rw [Int.toNat_natCast]; omega))))
    | ((with_reducible refine Need.mk ?_ ?_); exact CEq.refl _)
    | ((with_reducible fail_if_success first | refine LoopVC.mk ?_ | refine Need.mk ?_ ?_ | refine CallVC.mk ?_ | refine LoopEnd.mk ?_ | refine Out.mk ?_ | show False | refine NeedI.mk ?_ ?_); conv => whnf)
  · rename_i h
    simp only [Bool.not_eq_true', decide_eq_false_iff_not] at h
    rw [show crashV d keep = d from if_neg h]
    repeat' first
      | (with_reducible first | refine NeedI.mk (fun h => h) ?_ | refine NeedI.mk (fun h => h.2) ?_ | refine NeedI.mk (fun h => h.1) ?_ | (show Done; exact Done.mk) | refine Both.mk (fun _ => ?_) (fun _ => ?_) | refine Both2.mk (fun _ => ?_) ?_ | (refine Need.mk ?_ ?_; (first | omega | with_reducible exact CEq.refl _ | (dsimp only; omega) | (dsimp only [rng]; omega) | (rw [Int.toNat_natCast]; omega))))
      | ((with_reducible refine Need.mk ?_ ?_); exact CEq.refl _)
      | ((with_reducible fail_if_success first | refine LoopVC.mk ?_ | refine Need.mk ?_ ?_ | refine CallVC.mk ?_ | refine LoopEnd.mk ?_ | refine Out.mk ?_ | show False | refine NeedI.mk ?_ ?_); conv => whnf)
  · rename_i h
    simp only [Bool.not_eq_false', decide_eq_true_eq] at h
    rw [show crashV d keep = ⟨d.disk.crash keep, d.next, []⟩ from if_pos h]
    refine CallVC.mk' (fun _ => crash_ok K.k d.disk keep S.k hk) (fun _ => .cons ((.many fun j hj => by (rcases (show j = 0 ∨ j = 1 by omega) with rfl | rfl <;> exact CEq.refl _))) (.cons (.one (CEq.refl _)) .nil)) ?_
    repeat' first
      | (with_reducible first | refine NeedI.mk (fun h => h) ?_ | refine NeedI.mk (fun h => h.2) ?_ | refine NeedI.mk (fun h => h.1) ?_ | (show Done; exact Done.mk) | refine Both.mk (fun _ => ?_) (fun _ => ?_) | refine Both2.mk (fun _ => ?_) ?_ | (refine Need.mk ?_ ?_; (first | omega | with_reducible exact CEq.refl _ | (dsimp only; omega) | (dsimp only [rng]; omega) | (rw [Int.toNat_natCast]; omega))))
      | ((with_reducible refine Need.mk ?_ ?_); exact CEq.refl _)
      | ((with_reducible fail_if_success first | refine LoopVC.mk ?_ | refine Need.mk ?_ ?_ | refine CallVC.mk ?_ | refine LoopEnd.mk ?_ | refine Out.mk ?_ | show False | refine NeedI.mk ?_ ?_); conv => whnf)
    refine Need.mk ceq_nil ?_
    repeat' first
      | (with_reducible first | refine NeedI.mk (fun h => h) ?_ | refine NeedI.mk (fun h => h.2) ?_ | refine NeedI.mk (fun h => h.1) ?_ | (show Done; exact Done.mk) | refine Both.mk (fun _ => ?_) (fun _ => ?_) | refine Both2.mk (fun _ => ?_) ?_ | (refine Need.mk ?_ ?_; (first | omega | with_reducible exact CEq.refl _ | (dsimp only; omega) | (dsimp only [rng]; omega) | (rw [Int.toNat_natCast]; omega))))
      | ((with_reducible refine Need.mk ?_ ?_); exact CEq.refl _)
      | ((with_reducible fail_if_success first | refine LoopVC.mk ?_ | refine Need.mk ?_ ?_ | refine CallVC.mk ?_ | refine LoopEnd.mk ?_ | refine Out.mk ?_ | show False | refine NeedI.mk ?_ ?_); conv => whnf)
end
end Lk.S04
namespace Lk.S04
open Go Lk Lk.C Lk.S03
section
variable {P : Program} {F : Nat → Nat}
theorem Small_len {d : Dsk} (S : Small d) (at_ : Int) : (d.rd at_).1.length ≤ 1000000 := by
  unfold Dsk.rd
  split
  · rename_i h
    show (rdL d.cache _ (d.secs.getD _ [])).length ≤ _
    rcases rdL_mem (l := d.cache) (at_ := (at_.toNat : Int)) (s := d.secs.getD at_.toNat []) with e | ⟨w, hw, -, e⟩
    · rw [e]
      have := S.ls (d.secs.getD at_.toNat default) (getD_mem (by omega))
      exact this
    · rw [e]; exact S.lc w hw
  · simp
set_option maxHeartbeats 8000000 in
set_option maxRecDepth 100000 in
theorem finish_ok (K : KDev P F) (d : Dv) (at_ : Int) (fault : Bool) (S : SmallV d) :
    FnOk P (F 149) [.many 4 (dvE d), .one (.int .i64 at_), .one (.bool fault)] [.many 4 (fun j => .im (dvE (finD d at_ fault).1 j)), .many 4 (fun j => .im (rqE (finD d at_ fault).2.1 j)), .one (.im (.int .i64 (finD d at_ fault).2.2))] := by
  refine fnOk K.k.m K.finish ?_
  have hf := S.f
  repeat' first
    | (with_reducible first | refine NeedI.mk (fun h => h) ?_ | refine NeedI.mk (fun h => h.2) ?_ | refine NeedI.mk (fun h => h.1) ?_ | (show Done; exact Done.mk) | refine Both.mk (fun _ => ?_) (fun _ => ?_) | refine Both2.mk (fun _ => ?_) ?_ | (refine Need.mk ?_ ?_; (first | omega | with_reducible exact CEq.refl _ | (dsimp only; omega) | (dsimp only [rng]; omega) | (rw [Int.toNat_natCast]; omega))))
    | ((with_reducible refine Need.mk ?_ ?_); exact CEq.refl _)
    | ((with_reducible fail_if_success first | refine LoopVC.mk ?_ | refine Need.mk ?_ ?_ | refine CallVC.mk ?_ | refine LoopEnd.mk ?_ | refine Out.mk ?_ | show False | refine NeedI.mk ?_ ?_); conv => whnf)
  refine CallVC.mk' (fun _ => right_ok K d S) (fun _ => .cons ((.many fun j hj => by (rcases (show j = 0 ∨ j = 1 ∨ j = 2 ∨ j = 3 by omega) with rfl | rfl | rfl | rfl <;> exact CEq.refl _))) .nil) ?_
  repeat' first
    | (with_reducible first | refine NeedI.mk (fun h => h) ?_ | refine NeedI.mk (fun h => h.2) ?_ | refine NeedI.mk (fun h => h.1) ?_ | (show Done; exact Done.mk) | refine Both.mk (fun _ => ?_) (fun _ => ?_) | refine Both2.mk (fun _ => ?_) ?_ | (refine Need.mk ?_ ?_; (first | omega | with_reducible exact CEq.refl _ | (dsimp only; omega) | (dsimp only [rng]; omega) | (rw [Int.toNat_natCast]; omega))))
    | ((with_reducible refine Need.mk ?_ ?_); exact CEq.refl _)
    | ((with_reducible fail_if_success first | refine LoopVC.mk ?_ | refine Need.mk ?_ ?_ | refine CallVC.mk ?_ | refine LoopEnd.mk ?_ | refine Out.mk ?_ | show False | refine NeedI.mk ?_ ?_); conv => whnf)
  · rename_i h
    have h : finNo d at_ := by
      simp only [Bool.or_eq_true, Bool.not_eq_true', decide_eq_false_iff_not, decide_eq_true_eq, or_assoc] at h
      exact h
    rw [show finD d at_ fault = (d, ⟨0, 0, 0, []⟩, 1) from if_pos h]
    repeat' first
      | (with_reducible first | refine NeedI.mk (fun h => h) ?_ | refine NeedI.mk (fun h => h.2) ?_ | refine NeedI.mk (fun h => h.1) ?_ | (show Done; exact Done.mk) | refine Both.mk (fun _ => ?_) (fun _ => ?_) | refine Both2.mk (fun _ => ?_) ?_ | (refine Need.mk ?_ ?_; (first | omega | with_reducible exact CEq.refl _ | (dsimp only; omega) | (dsimp only [rng]; omega) | (rw [Int.toNat_natCast]; omega))))
      | ((with_reducible refine Need.mk ?_ ?_); exact CEq.refl _)
      | ((with_reducible fail_if_success first | refine LoopVC.mk ?_ | refine Need.mk ?_ ?_ | refine CallVC.mk ?_ | refine LoopEnd.mk ?_ | refine Out.mk ?_ | show False | refine NeedI.mk ?_ ?_); conv => whnf)
  rename_i h
  have h : ¬ finNo d at_ := by
    simp only [Bool.or_eq_false_iff, Bool.not_eq_false', decide_eq_false_iff_not, decide_eq_true_eq] at h
    rintro (x | x | x)
    · exact x h.1.1
    · exact h.1.2 x
    · exact h.2 x
  have hv : rightV d := Classical.byContradiction fun x => h (.inl x)
  have ha0 : 0 ≤ at_ := by have : ¬ at_ < 0 := fun x => h (.inr (.inl x)); omega
  obtain ⟨i, rfl⟩ : ∃ i : Nat, at_ = i := ⟨at_.toNat, by omega⟩
  have hi : i < d.flight.length := by have : ¬ (d.flight.length : Int) ≤ i := fun x => h (.inr (.inr x)); omega
  have hn := hv.2.1
  have hok := (hv.2.2 i hi).2.2
  repeat' first
    | (with_reducible first | refine NeedI.mk (fun h => h) ?_ | refine NeedI.mk (fun h => h.2) ?_ | refine NeedI.mk (fun h => h.1) ?_ | (show Done; exact Done.mk) | refine Both.mk (fun _ => ?_) (fun _ => ?_) | refine Both2.mk (fun _ => ?_) ?_ | (refine Need.mk ?_ ?_; (first | omega | with_reducible exact CEq.refl _ | (dsimp only; omega) | (dsimp only [rng]; omega) | (rw [Int.toNat_natCast]; omega))))
    | ((with_reducible refine Need.mk ?_ ?_); exact CEq.refl _)
    | ((with_reducible fail_if_success first | refine LoopVC.mk ?_ | refine Need.mk ?_ ?_ | refine CallVC.mk ?_ | refine LoopEnd.mk ?_ | refine Out.mk ?_ | show False | refine NeedI.mk ?_ ?_); conv => whnf)
  let f0 : Nat → Nat → Cell := fun r j => rqE (d.flight.getD r default) j
  let f1 : Nat → Nat → Cell := fun r j => rqE (d.flight.getD (addN (i + 1) r) default) j
  refine CallVC.mk' (fun _ => sl_Concat_device_Request_ok K.k.m K.concat K.grow i (d.flight.length - (i + 1)) f0 f1 (by omega)) (fun _ => .cons (.one (two_ceq (CEq.refl _) (CEq.refl _))) .nil) ?_
  rw [Int.toNat_natCast]
  have hl1 : i + (d.flight.length - (i + 1)) = (without d.flight i).length := by unfold without; rw [List.length_append, List.length_take, List.length_drop, Nat.min_eq_left (by omega)]
  have hisl : IsL 4 rqE (without d.flight i) (appC f0 i f1) := by
    have e0 : IsL 4 rqE (d.flight.take i) f0 := fun r hr j hj => by
      have hr : r < i := by simp at hr; omega
      rw [getD_eq (show r < (d.flight.take i).length by simp; omega), List.getElem_take]
      show CEq (rqE (d.flight.getD r default) j) _
      rw [getD_eq (show r < d.flight.length by omega)]
      exact CEq.refl _
    have e1 : IsL 4 rqE (d.flight.drop (i + 1)) f1 := fun r hr j hj => by
      have hr : i + 1 + r < d.flight.length := by simp at hr; omega
      rw [getD_eq (show r < (d.flight.drop (i + 1)).length by simp; omega), List.getElem_drop]
      show CEq (rqE (d.flight.getD (addN (i + 1) r) default) j) _
      rw [addN_eq, getD_eq hr]
      exact CEq.refl _
    exact e0.app (by rw [List.length_take, Nat.min_eq_left (by omega)]) e1
  have hceq := hisl.off.ceq hl1
  clear_value f0 f1
  have hr := S.lf _ (getD_mem hi)
  have hfin : finD d i fault = if fault then (⟨d.disk, d.next, without d.flight i⟩, d.flight.getD i default, 8) else fin1 d (d.flight.getD i default) (without d.flight i) := by
    unfold finD; rw [if_neg h, Int.toNat_natCast]
  rw [hfin]
  clear hfin
  generalize d.flight.getD i default = r at *
  have hn0 : i + (d.flight.length - (i + 1)) ≤ 1000 := by omega
  generalize i + (d.flight.length - (i + 1)) = nw at *
  generalize without d.flight i = lw at *
  repeat' first
    | (with_reducible first | refine NeedI.mk (fun h => h) ?_ | refine NeedI.mk (fun h => h.2) ?_ | refine NeedI.mk (fun h => h.1) ?_ | (show Done; exact Done.mk) | refine Both.mk (fun _ => ?_) (fun _ => ?_) | refine Both2.mk (fun _ => ?_) ?_ | (refine Need.mk ?_ ?_; (first | omega | with_reducible exact CEq.refl _ | (dsimp only; omega) | (dsimp only [rng]; omega) | (rw [Int.toNat_natCast]; omega))))
    | ((with_reducible refine Need.mk ?_ ?_); exact CEq.refl _)
    | ((with_reducible fail_if_success first | refine LoopVC.mk ?_ | refine Need.mk ?_ ?_ | refine CallVC.mk ?_ | refine LoopEnd.mk ?_ | refine Out.mk ?_ | show False | refine NeedI.mk ?_ ?_); conv => whnf)
  · rename_i h2
    rw [if_pos h2]
    repeat' first
      | (with_reducible first | refine NeedI.mk (fun h => h) ?_ | refine NeedI.mk (fun h => h.2) ?_ | refine NeedI.mk (fun h => h.1) ?_ | (show Done; exact Done.mk) | refine Both.mk (fun _ => ?_) (fun _ => ?_) | refine Both2.mk (fun _ => ?_) ?_ | (refine Need.mk ?_ ?_; (first | omega | with_reducible exact CEq.refl _ | (dsimp only; omega) | (dsimp only [rng]; omega) | (rw [Int.toNat_natCast]; omega))))
      | ((with_reducible refine Need.mk ?_ ?_); exact CEq.refl _)
      | ((with_reducible fail_if_success first | refine LoopVC.mk ?_ | refine Need.mk ?_ ?_ | refine CallVC.mk ?_ | refine LoopEnd.mk ?_ | refine Out.mk ?_ | show False | refine NeedI.mk ?_ ?_); conv => whnf)
    refine Need.mk hceq ?_
    repeat' first
      | (with_reducible first | refine NeedI.mk (fun h => h) ?_ | refine NeedI.mk (fun h => h.2) ?_ | refine NeedI.mk (fun h => h.1) ?_ | (show Done; exact Done.mk) | refine Both.mk (fun _ => ?_) (fun _ => ?_) | refine Both2.mk (fun _ => ?_) ?_ | (refine Need.mk ?_ ?_; (first | omega | with_reducible exact CEq.refl _ | (dsimp only; omega) | (dsimp only [rng]; omega) | (rw [Int.toNat_natCast]; omega))))
      | ((with_reducible refine Need.mk ?_ ?_); exact CEq.refl _)
      | ((with_reducible fail_if_success first | refine LoopVC.mk ?_ | refine Need.mk ?_ ?_ | refine CallVC.mk ?_ | refine LoopEnd.mk ?_ | refine Out.mk ?_ | show False | refine NeedI.mk ?_ ?_); conv => whnf)
  all_goals (rw [if_neg (by simp [*])])
  all_goals unfold fin1
  · rename_i h2 h3
    have h3 := of_decide_eq_true h3
    rw [if_pos h3]
    obtain ⟨p1, p2⟩ : 1 ≤ r.page ∧ r.page ≤ 16 := by rcases hok with x | x | x <;> omega
    refine CallVC.mk' (fun _ => home_ok K.k.m K.home r.page (by omega) (by omega)) (fun _ => .cons (.one (CEq.refl _)) .nil) ?_
    repeat' first
      | (with_reducible first | refine NeedI.mk (fun h => h) ?_ | refine NeedI.mk (fun h => h.2) ?_ | refine NeedI.mk (fun h => h.1) ?_ | (show Done; exact Done.mk) | refine Both.mk (fun _ => ?_) (fun _ => ?_) | refine Both2.mk (fun _ => ?_) ?_ | (refine Need.mk ?_ ?_; (first | omega | with_reducible exact CEq.refl _ | (dsimp only; omega) | (dsimp only [rng]; omega) | (rw [Int.toNat_natCast]; omega))))
      | ((with_reducible refine Need.mk ?_ ?_); exact CEq.refl _)
      | ((with_reducible fail_if_success first | refine LoopVC.mk ?_ | refine Need.mk ?_ ?_ | refine CallVC.mk ?_ | refine LoopEnd.mk ?_ | refine Out.mk ?_ | show False | refine NeedI.mk ?_ ?_); conv => whnf)
    refine CallVC.mk' (fun _ => K.rd d.disk (hm r.page) S.k) (fun _ => .cons ((.many fun j hj => by (rcases (show j = 0 ∨ j = 1 by omega) with rfl | rfl <;> exact CEq.refl _))) (.cons (.one (CEq.refl _)) .nil)) ?_
    repeat' first
      | (with_reducible first | refine NeedI.mk (fun h => h) ?_ | refine NeedI.mk (fun h => h.2) ?_ | refine NeedI.mk (fun h => h.1) ?_ | (show Done; exact Done.mk) | refine Both.mk (fun _ => ?_) (fun _ => ?_) | refine Both2.mk (fun _ => ?_) ?_ | (refine Need.mk ?_ ?_; (first | omega | with_reducible exact CEq.refl _ | (dsimp only; omega) | (dsimp only [rng]; omega) | (rw [Int.toNat_natCast]; omega))))
      | ((with_reducible refine Need.mk ?_ ?_); exact CEq.refl _)
      | ((with_reducible fail_if_success first | refine LoopVC.mk ?_ | refine Need.mk ?_ ?_ | refine CallVC.mk ?_ | refine LoopEnd.mk ?_ | refine Out.mk ?_ | show False | refine NeedI.mk ?_ ?_); conv => whnf)
    refine CallVC.mk' (fun _ => home_ok K.k.m K.home r.page (by omega) (by omega)) (fun _ => .cons (.one (CEq.refl _)) .nil) ?_
    have hh : hm r.page = 2 * r.page + 1 := rfl
    repeat' first
      | (with_reducible first | refine NeedI.mk (fun h => h) ?_ | refine NeedI.mk (fun h => h.2) ?_ | refine NeedI.mk (fun h => h.1) ?_ | (show Done; exact Done.mk) | refine Both.mk (fun _ => ?_) (fun _ => ?_) | refine Both2.mk (fun _ => ?_) ?_ | (refine Need.mk ?_ ?_; (first | omega | with_reducible exact CEq.refl _ | (dsimp only; omega) | (dsimp only [rng]; omega) | (rw [Int.toNat_natCast]; omega))))
      | ((with_reducible refine Need.mk ?_ ?_); exact CEq.refl _)
      | ((with_reducible fail_if_success first | refine LoopVC.mk ?_ | refine Need.mk ?_ ?_ | refine CallVC.mk ?_ | refine LoopEnd.mk ?_ | refine Out.mk ?_ | show False | refine NeedI.mk ?_ ?_); conv => whnf)
    refine CallVC.mk' (fun _ => K.rd d.disk (hm r.page + 1) S.k) (fun _ => .cons ((.many fun j hj => by (rcases (show j = 0 ∨ j = 1 by omega) with rfl | rfl <;> exact CEq.refl _))) (.cons (.one (CEq.refl _)) .nil)) ?_
    have l1 := Small_len S.k (hm r.page)
    have l2 := Small_len S.k (hm r.page + 1)
    repeat' first
      | (with_reducible first | refine NeedI.mk (fun h => h) ?_ | refine NeedI.mk (fun h => h.2) ?_ | refine NeedI.mk (fun h => h.1) ?_ | (show Done; exact Done.mk) | refine Both.mk (fun _ => ?_) (fun _ => ?_) | refine Both2.mk (fun _ => ?_) ?_ | (refine Need.mk ?_ ?_; (first | omega | with_reducible exact CEq.refl _ | (dsimp only; omega) | (dsimp only [rng]; omega) | (rw [Int.toNat_natCast]; omega))))
      | ((with_reducible refine Need.mk ?_ ?_); exact CEq.refl _)
      | ((with_reducible fail_if_success first | refine LoopVC.mk ?_ | refine Need.mk ?_ ?_ | refine CallVC.mk ?_ | refine LoopEnd.mk ?_ | refine Out.mk ?_ | show False | refine NeedI.mk ?_ ?_); conv => whnf)
    refine Need.mk hceq ?_
    repeat' first
      | (with_reducible first | refine NeedI.mk (fun h => h) ?_ | refine NeedI.mk (fun h => h.2) ?_ | refine NeedI.mk (fun h => h.1) ?_ | (show Done; exact Done.mk) | refine Both.mk (fun _ => ?_) (fun _ => ?_) | refine Both2.mk (fun _ => ?_) ?_ | (refine Need.mk ?_ ?_; (first | omega | with_reducible exact CEq.refl _ | (dsimp only; omega) | (dsimp only [rng]; omega) | (rw [Int.toNat_natCast]; omega))))
      | ((with_reducible refine Need.mk ?_ ?_); exact CEq.refl _)
      | ((with_reducible fail_if_success first | refine LoopVC.mk ?_ | refine Need.mk ?_ ?_ | refine CallVC.mk ?_ | refine LoopEnd.mk ?_ | refine Out.mk ?_ | show False | refine NeedI.mk ?_ ?_); conv => whnf)
  · rename_i h2 h3 h4
    have h3 := of_decide_eq_false h3
    have h4 := of_decide_eq_true h4
    rw [if_neg h3, if_pos h4]
    obtain ⟨⟨p1, p2⟩, p3⟩ : (1 ≤ r.page ∧ r.page ≤ 16) ∧ r.data.length = 32 := by rcases hok with x | x | x <;> omega
    refine CallVC.mk' (fun _ => put_ok K d.disk r S.k p3 p1 p2) (fun _ => .cons ((.many fun j hj => by (rcases (show j = 0 ∨ j = 1 by omega) with rfl | rfl <;> exact CEq.refl _))) (.cons ((.many fun j hj => by (rcases (show j = 0 ∨ j = 1 ∨ j = 2 ∨ j = 3 by omega) with rfl | rfl | rfl | rfl <;> exact CEq.refl _))) .nil)) ?_
    repeat' first
      | (with_reducible first | refine NeedI.mk (fun h => h) ?_ | refine NeedI.mk (fun h => h.2) ?_ | refine NeedI.mk (fun h => h.1) ?_ | (show Done; exact Done.mk) | refine Both.mk (fun _ => ?_) (fun _ => ?_) | refine Both2.mk (fun _ => ?_) ?_ | (refine Need.mk ?_ ?_; (first | omega | with_reducible exact CEq.refl _ | (dsimp only; omega) | (dsimp only [rng]; omega) | (rw [Int.toNat_natCast]; omega))))
      | ((with_reducible refine Need.mk ?_ ?_); exact CEq.refl _)
      | ((with_reducible fail_if_success first | refine LoopVC.mk ?_ | refine Need.mk ?_ ?_ | refine CallVC.mk ?_ | refine LoopEnd.mk ?_ | refine Out.mk ?_ | show False | refine NeedI.mk ?_ ?_); conv => whnf)
    refine Need.mk hceq ?_
    repeat' first
      | (with_reducible first | refine NeedI.mk (fun h => h) ?_ | refine NeedI.mk (fun h => h.2) ?_ | refine NeedI.mk (fun h => h.1) ?_ | (show Done; exact Done.mk) | refine Both.mk (fun _ => ?_) (fun _ => ?_) | refine Both2.mk (fun _ => ?_) ?_ | (refine Need.mk ?_ ?_; (first | omega | with_reducible exact CEq.refl _ | (dsimp only; omega) | (dsimp only [rng]; omega) | (rw [Int.toNat_natCast]; omega))))
      | ((with_reducible refine Need.mk ?_ ?_); exact CEq.refl _)
      | ((with_reducible fail_if_success first | refine LoopVC.mk ?_ | refine Need.mk ?_ ?_ | refine CallVC.mk ?_ | refine LoopEnd.mk ?_ | refine Out.mk ?_ | show False | refine NeedI.mk ?_ ?_); conv => whnf)
  · rename_i h2 h3 h4 h5
    have h3 := of_decide_eq_false h3
    have h4 := of_decide_eq_false h4
    rw [if_neg h3, if_neg h4]
    refine CallVC.mk' (fun _ => sync_ok K.k d.disk S.k) (fun _ => .cons ((.many fun j hj => by (rcases (show j = 0 ∨ j = 1 by omega) with rfl | rfl <;> exact CEq.refl _))) .nil) ?_
    repeat' first
      | (with_reducible first | refine NeedI.mk (fun h => h) ?_ | refine NeedI.mk (fun h => h.2) ?_ | refine NeedI.mk (fun h => h.1) ?_ | (show Done; exact Done.mk) | refine Both.mk (fun _ => ?_) (fun _ => ?_) | refine Both2.mk (fun _ => ?_) ?_ | (refine Need.mk ?_ ?_; (first | omega | with_reducible exact CEq.refl _ | (dsimp only; omega) | (dsimp only [rng]; omega) | (rw [Int.toNat_natCast]; omega))))
      | ((with_reducible refine Need.mk ?_ ?_); exact CEq.refl _)
      | ((with_reducible fail_if_success first | refine LoopVC.mk ?_ | refine Need.mk ?_ ?_ | refine CallVC.mk ?_ | refine LoopEnd.mk ?_ | refine Out.mk ?_ | show False | refine NeedI.mk ?_ ?_); conv => whnf)
    refine Need.mk hceq ?_
    repeat' first
      | (with_reducible first | refine NeedI.mk (fun h => h) ?_ | refine NeedI.mk (fun h => h.2) ?_ | refine NeedI.mk (fun h => h.1) ?_ | (show Done; exact Done.mk) | refine Both.mk (fun _ => ?_) (fun _ => ?_) | refine Both2.mk (fun _ => ?_) ?_ | (refine Need.mk ?_ ?_; (first | omega | with_reducible exact CEq.refl _ | (dsimp only; omega) | (dsimp only [rng]; omega) | (rw [Int.toNat_natCast]; omega))))
      | ((with_reducible refine Need.mk ?_ ?_); exact CEq.refl _)
      | ((with_reducible fail_if_success first | refine LoopVC.mk ?_ | refine Need.mk ?_ ?_ | refine CallVC.mk ?_ | refine LoopEnd.mk ?_ | refine Out.mk ?_ | show False | refine NeedI.mk ?_ ?_); conv => whnf)
  · rename_i h2 h3 h4 h5
    have h3 := of_decide_eq_false h3
    have h4 := of_decide_eq_false h4
    have h5 := of_decide_eq_false h5
    rcases hok with x | x | x <;> omega
end
end Lk.S04
namespace Lk.S04
open Go Lk Lk.C Lk.S03
section
variable {P : Program} {F : Nat → Nat}
/-- What the reference needs of the program. -/
structure KRV (P : Program) (F : Nat → Nat) : Prop where
  r : KRef P F
  rc : KRefC P F
  ref : law04_ref_k P F
  may : ref04_May_k P F
  right : ref04_Right_k P F
  submit : ref04_Submit_k P F
  finish : ref04_Finish_k P F
  same : ref04_Same_k P F
theorem ok_pos {n : Int} {l : List Rq} : ∀ {i : Nat}, (∀ k, k < i → okAt n l k) → ∀ k, k < i → 0 ≤ (l.getD k default).ticket := fun {i} h k hk => by
  induction k with
  | zero => have := (h 0 hk).1; unfold ahead at this; rw [if_pos rfl] at this; omega
  | succ k ih =>
    have := (h (k + 1) hk).1
    unfold ahead at this
    rw [if_neg (by omega), Nat.add_sub_cancel] at this
    have := ih (by omega); omega
theorem okAt_ref {n : Int} {l : List Rq} {i : Nat} (h : ∀ k, k < i → okAt n l k) : okAt n l i ↔ (0 ≤ (l.getD i default).ticket ∧ (l.getD i default).ticket < n) ∧ (0 < i → (l.getD (i - 1) default).ticket < (l.getD i default).ticket) ∧ may (l.getD i default).kind (l.getD i default).page (l.getD i default).data := by
  unfold okAt ahead
  by_cases h0 : i = 0
  · rw [if_pos h0]
    exact ⟨fun ⟨a, b, c⟩ => ⟨⟨by omega, b⟩, fun x => absurd x (by omega), c⟩, fun ⟨⟨a, b⟩, _, c⟩ => ⟨by omega, b, c⟩⟩
  · rw [if_neg h0]
    have := ok_pos h (i - 1) (by omega)
    exact ⟨fun ⟨a, b, c⟩ => ⟨⟨by omega, b⟩, fun _ => a, c⟩, fun ⟨⟨a, b⟩, x, c⟩ => ⟨x (by omega), b, c⟩⟩
set_option maxHeartbeats 8000000 in
set_option maxRecDepth 100000 in
theorem rrightV_ok (R : KRV P F) (d : Dv) (W : EDv.wf d) : FnOk P (F 171) [.many 4 (dvE d)] [.one (.im (.bool (decide (rightV d))))] := by
  refine fnOk R.r.m R.right ?_
  have W0 := W.1.1
  have W1 := W.2.1
  repeat' first
    | (with_reducible first | refine NeedI.mk (fun h => h) ?_ | refine NeedI.mk (fun h => h.2) ?_ | refine NeedI.mk (fun h => h.1) ?_ | (show Done; exact Done.mk) | refine Both.mk (fun _ => ?_) (fun _ => ?_) | refine Both2.mk (fun _ => ?_) ?_ | (refine Need.mk ?_ ?_; (first | omega | with_reducible exact CEq.refl _ | (dsimp only; omega) | (dsimp only [rng]; omega) | (rw [Int.toNat_natCast]; omega))))
    | ((with_reducible refine Need.mk ?_ ?_); exact CEq.refl _)
    | ((with_reducible fail_if_success first | refine LoopVC.mk ?_ | refine Need.mk ?_ ?_ | refine CallVC.mk ?_ | refine LoopEnd.mk ?_ | refine Out.mk ?_ | show False | refine NeedI.mk ?_ ?_); conv => whnf)
  refine CallVC.mk' (fun _ => S03.rright_ok R.r d.disk W.1) (fun _ => .cons ((.many fun j hj => by (rcases (show j = 0 ∨ j = 1 by omega) with rfl | rfl <;> exact CEq.refl _))) .nil) ?_
  repeat' first
    | (with_reducible first | refine NeedI.mk (fun h => h) ?_ | refine NeedI.mk (fun h => h.2) ?_ | refine NeedI.mk (fun h => h.1) ?_ | (show Done; exact Done.mk) | refine Both.mk (fun _ => ?_) (fun _ => ?_) | refine Both2.mk (fun _ => ?_) ?_ | (refine Need.mk ?_ ?_; (first | omega | with_reducible exact CEq.refl _ | (dsimp only; omega) | (dsimp only [rng]; omega) | (rw [Int.toNat_natCast]; omega))))
    | ((with_reducible refine Need.mk ?_ ?_); exact CEq.refl _)
    | ((with_reducible fail_if_success first | refine LoopVC.mk ?_ | refine Need.mk ?_ ?_ | refine CallVC.mk ?_ | refine LoopEnd.mk ?_ | refine Out.mk ?_ | show False | refine NeedI.mk ?_ ?_); conv => whnf)
  · rename_i h
    rw [decide_eq_false (fun x : rightV d => by
      obtain ⟨⟨a, b⟩, ⟨a1, b1, c1⟩, -⟩ := x
      rw [decide_eq_true a] at h
      simp only [Bool.not_true, Bool.false_or, Bool.or_eq_true, decide_eq_true_eq] at h; omega)]
    repeat' first
      | (with_reducible first | refine NeedI.mk (fun h => h) ?_ | refine NeedI.mk (fun h => h.2) ?_ | refine NeedI.mk (fun h => h.1) ?_ | (show Done; exact Done.mk) | refine Both.mk (fun _ => ?_) (fun _ => ?_) | refine Both2.mk (fun _ => ?_) ?_ | (refine Need.mk ?_ ?_; (with_reducible exact Nat.le_of_eq (Nat.zero_add _))))
      | ((with_reducible refine Need.mk ?_ ?_); exact CEq.refl _)
      | ((with_reducible fail_if_success first | refine LoopVC.mk ?_ | refine Need.mk ?_ ?_ | refine CallVC.mk ?_ | refine LoopEnd.mk ?_ | refine Out.mk ?_ | show False | refine NeedI.mk ?_ ?_); conv => whnf)
  rename_i h0
  simp only [Bool.or_eq_false_iff, Bool.not_eq_false', decide_eq_true_eq, decide_eq_false_iff_not] at h0
  refine LoopVC.inv (fun i : Nat => i ≤ d.flight.length ∧ ∀ k, k < i → okAt d.next d.flight k) (fun i => stL [(1, .va 1 0 0), (3, .c (.int .i64 i))]
    [(1, vE [.c (slL 1 strE d.disk.secs), .c (slL 2 wrE d.disk.cache), .c (.int .i64 d.next), .c (slL 4 rqE d.flight)])]) (fun i => d.flight.length - i) 0 ⟨Nat.zero_le _, fun k hk => by omega⟩ ?_ ?_
  · (refine Le.of ?_ ?_ <;> repeat' first | exact trivial | exact CEq.refl _ | exact rfl | exact cI (by push_cast; first | rfl | omega) | exact SubE.dat fun _ _ _ _ => CEq.refl _ | refine SubE.var2 ?_ ?_ | refine SubE.var1 ?_ | refine SubE.var3 ?_ ?_ ?_ | refine SubE.var4 ?_ ?_ ?_ ?_ | refine SubE.var5 ?_ ?_ ?_ ?_ ?_ | refine Exists.intro _ (And.intro rfl ?_) | refine And.intro ?_ ?_)
  rintro Q hQ i ⟨hi, hok⟩
  repeat' first
    | (with_reducible first | refine NeedI.mk (fun h => h) ?_ | refine NeedI.mk (fun h => h.2) ?_ | refine NeedI.mk (fun h => h.1) ?_ | (show Done; exact Done.mk) | refine Both.mk (fun _ => ?_) (fun _ => ?_) | refine Both2.mk (fun _ => ?_) ?_ | (refine Need.mk ?_ ?_; (first | omega | with_reducible exact CEq.refl _ | (dsimp only; omega) | (dsimp only [rng]; omega) | (rw [Int.toNat_natCast]; omega))))
    | ((with_reducible refine Need.mk ?_ ?_); exact CEq.refl _)
    | ((with_reducible fail_if_success first | refine LoopVC.mk ?_ | refine Need.mk ?_ ?_ | refine CallVC.mk ?_ | refine LoopEnd.mk ?_ | refine Out.mk ?_ | show False | refine NeedI.mk ?_ ?_); conv => whnf)
  · rename_i h1
    have h1 : (i : Int) < d.flight.length := of_decide_eq_true h1
    have hr := W.2.2.2 _ (getD_mem (show i < d.flight.length by omega))
    repeat' first
      | (with_reducible first | refine NeedI.mk (fun h => h) ?_ | refine NeedI.mk (fun h => h.2) ?_ | refine NeedI.mk (fun h => h.1) ?_ | (show Done; exact Done.mk) | refine Both.mk (fun _ => ?_) (fun _ => ?_) | refine Both2.mk (fun _ => ?_) ?_ | (refine Need.mk ?_ ?_; (first | omega | with_reducible exact CEq.refl _ | (dsimp only; omega) | (dsimp only [rng]; omega) | (rw [Int.toNat_natCast]; omega))))
      | ((with_reducible refine Need.mk ?_ ?_); exact CEq.refl _)
      | ((with_reducible fail_if_success first | refine LoopVC.mk ?_ | refine Need.mk ?_ ?_ | refine CallVC.mk ?_ | refine LoopEnd.mk ?_ | refine Out.mk ?_ | show False | refine NeedI.mk ?_ ?_); conv => whnf)
    refine Need.mk (fun x => by have := of_decide_eq_true x.2; omega) ?_
    rw [Int.toNat_natCast]
    repeat' first
      | (with_reducible first | refine NeedI.mk (fun h => h) ?_ | refine NeedI.mk (fun h => h.2) ?_ | refine NeedI.mk (fun h => h.1) ?_ | (show Done; exact Done.mk) | refine Both.mk (fun _ => ?_) (fun _ => ?_) | refine Both2.mk (fun _ => ?_) ?_ | (refine Need.mk ?_ ?_; (first | omega | with_reducible exact CEq.refl _ | (dsimp only; omega) | (dsimp only [rng]; omega) | (rw [Int.toNat_natCast]; omega))))
      | ((with_reducible refine Need.mk ?_ ?_); exact CEq.refl _)
      | ((with_reducible fail_if_success first | refine LoopVC.mk ?_ | refine Need.mk ?_ ?_ | refine CallVC.mk ?_ | refine LoopEnd.mk ?_ | refine Out.mk ?_ | show False | refine NeedI.mk ?_ ?_); conv => whnf)
    refine CallVC.mk' (fun _ => rmay_ok R.r.m R.may _ _ _ hr) (fun _ => .cons (.one (CEq.refl _)) (.cons (.one (CEq.refl _)) (.cons (.one (CEq.refl _)) .nil))) ?_
    repeat' first
      | (with_reducible first | refine NeedI.mk (fun h => h) ?_ | refine NeedI.mk (fun h => h.2) ?_ | refine NeedI.mk (fun h => h.1) ?_ | (show Done; exact Done.mk) | refine Both.mk (fun _ => ?_) (fun _ => ?_) | refine Both2.mk (fun _ => ?_) ?_ | (refine Need.mk ?_ ?_; (first | omega | with_reducible exact CEq.refl _ | (dsimp only; omega) | (dsimp only [rng]; omega) | (rw [Int.toNat_natCast]; omega))))
      | ((with_reducible refine Need.mk ?_ ?_); exact CEq.refl _)
      | ((with_reducible fail_if_success first | refine LoopVC.mk ?_ | refine Need.mk ?_ ?_ | refine CallVC.mk ?_ | refine LoopEnd.mk ?_ | refine Out.mk ?_ | show False | refine NeedI.mk ?_ ?_); conv => whnf)
    · rename_i h2
      refine Out.mk (hQ _ _ ?_)
      rw [decide_eq_false (fun x : rightV d => by
        have x := (okAt_ref hok).1 (x.2.2 i (by omega))
        rw [show ((i : Int) - 1).toNat = i - 1 by omega, decide_eq_true x.2.2] at h2
        simp only [Bool.or_eq_true, Bool.and_eq_true, decide_eq_true_eq, Bool.not_true, Bool.false_eq_true, or_false] at h2
        rcases h2 with h2 | h2
        · omega
        · have := x.2.1 (by omega); omega)]
      repeat' first
        | (with_reducible first | refine NeedI.mk (fun h => h) ?_ | refine NeedI.mk (fun h => h.2) ?_ | refine NeedI.mk (fun h => h.1) ?_ | (show Done; exact Done.mk) | refine Both.mk (fun _ => ?_) (fun _ => ?_) | refine Both2.mk (fun _ => ?_) ?_ | (refine Need.mk ?_ ?_; (with_reducible exact Nat.le_of_eq (Nat.zero_add _))))
        | ((with_reducible refine Need.mk ?_ ?_); exact CEq.refl _)
        | ((with_reducible fail_if_success first | refine LoopVC.mk ?_ | refine Need.mk ?_ ?_ | refine CallVC.mk ?_ | refine LoopEnd.mk ?_ | refine Out.mk ?_ | show False | refine NeedI.mk ?_ ?_); conv => whnf)
    · rename_i h2
      rw [show ((i : Int) - 1).toNat = i - 1 by omega] at h2
      simp only [Bool.or_eq_false_iff, Bool.and_eq_false_imp, decide_eq_false_iff_not, decide_eq_true_eq, Bool.not_eq_false'] at h2
      refine LoopEnd.mk ⟨i + 1, ⟨by omega, fun k hk => ?_⟩, by omega, by (refine Le.of ?_ ?_ <;> repeat' first | exact trivial | exact CEq.refl _ | exact rfl | exact cI (by push_cast; first | rfl | omega) | exact SubE.dat fun _ _ _ _ => CEq.refl _ | refine SubE.var2 ?_ ?_ | refine SubE.var1 ?_ | refine SubE.var3 ?_ ?_ ?_ | refine SubE.var4 ?_ ?_ ?_ ?_ | refine SubE.var5 ?_ ?_ ?_ ?_ ?_ | refine Exists.intro _ (And.intro rfl ?_) | refine And.intro ?_ ?_)⟩
      rcases Nat.lt_or_ge k i with h9 | h9
      · exact hok k h9
      · obtain rfl : k = i := by omega
        exact (okAt_ref hok).2 ⟨⟨by omega, by omega⟩, fun x => by have := h2.1.2 (by omega); omega, h2.2⟩
  · rename_i h1
    have h1 : ¬ (i : Int) < d.flight.length := of_decide_eq_false h1
    refine Out.mk (hQ _ _ ?_)
    rw [decide_eq_true (show rightV d from ⟨⟨h0.1.1.1.1, by omega⟩, ⟨by omega, by omega, by omega⟩, fun k hk => hok k (by omega)⟩)]
    repeat' first
      | (with_reducible first | refine NeedI.mk (fun h => h) ?_ | refine NeedI.mk (fun h => h.2) ?_ | refine NeedI.mk (fun h => h.1) ?_ | (show Done; exact Done.mk) | refine Both.mk (fun _ => ?_) (fun _ => ?_) | refine Both2.mk (fun _ => ?_) ?_ | (refine Need.mk ?_ ?_; (with_reducible exact Nat.le_of_eq (Nat.zero_add _))))
      | ((with_reducible refine Need.mk ?_ ?_); exact CEq.refl _)
      | ((with_reducible fail_if_success first | refine LoopVC.mk ?_ | refine Need.mk ?_ ?_ | refine CallVC.mk ?_ | refine LoopEnd.mk ?_ | refine Out.mk ?_ | show False | refine NeedI.mk ?_ ?_); conv => whnf)
set_option maxHeartbeats 8000000 in
set_option maxRecDepth 100000 in
theorem rsubmit_ok (R : KRV P F) (d : Dv) (k p : Int) (s : List UInt8) (W : EDv.wf d) (S : SmallV d) (hs : s.length ≤ 9223372036854775807) :
    FnOk P (F 169) [.many 4 (dvE d), .one (.int .i64 k), .one (.int .i64 p), .one (.str s)] [.many 4 (fun j => .im (dvE (subm d k p s).1 j)), .one (.im (.int .i64 (subm d k p s).2.1)), .one (.im (.int .i64 (subm d k p s).2.2))] := by
  refine fnOk R.r.m R.submit ?_
  have hf := S.f
  repeat' first
    | (with_reducible first | refine NeedI.mk (fun h => h) ?_ | refine NeedI.mk (fun h => h.2) ?_ | refine NeedI.mk (fun h => h.1) ?_ | (show Done; exact Done.mk) | refine Both.mk (fun _ => ?_) (fun _ => ?_) | refine Both2.mk (fun _ => ?_) ?_ | (refine Need.mk ?_ ?_; (first | omega | with_reducible exact CEq.refl _ | (dsimp only; omega) | (dsimp only [rng]; omega) | (rw [Int.toNat_natCast]; omega))))
    | ((with_reducible refine Need.mk ?_ ?_); exact CEq.refl _)
    | ((with_reducible fail_if_success first | refine LoopVC.mk ?_ | refine Need.mk ?_ ?_ | refine CallVC.mk ?_ | refine LoopEnd.mk ?_ | refine Out.mk ?_ | show False | refine NeedI.mk ?_ ?_); conv => whnf)
  refine CallVC.mk' (fun _ => rrightV_ok R d W) (fun _ => .cons ((.many fun j hj => by (rcases (show j = 0 ∨ j = 1 ∨ j = 2 ∨ j = 3 by omega) with rfl | rfl | rfl | rfl <;> exact CEq.refl _))) .nil) ?_
  repeat' first
    | (with_reducible first | refine NeedI.mk (fun h => h) ?_ | refine NeedI.mk (fun h => h.2) ?_ | refine NeedI.mk (fun h => h.1) ?_ | (show Done; exact Done.mk) | refine Both.mk (fun _ => ?_) (fun _ => ?_) | refine Both2.mk (fun _ => ?_) ?_ | (refine Need.mk ?_ ?_; (first | omega | with_reducible exact CEq.refl _ | (dsimp only; omega) | (dsimp only [rng]; omega) | (rw [Int.toNat_natCast]; omega))))
    | ((with_reducible refine Need.mk ?_ ?_); exact CEq.refl _)
    | ((with_reducible fail_if_success first | refine LoopVC.mk ?_ | refine Need.mk ?_ ?_ | refine CallVC.mk ?_ | refine LoopEnd.mk ?_ | refine Out.mk ?_ | show False | refine NeedI.mk ?_ ?_); conv => whnf)
  refine CallVC.mk' (fun _ => rmay_ok R.r.m R.may k p s hs) (fun _ => .cons (.one (CEq.refl _)) (.cons (.one (CEq.refl _)) (.cons (.one (CEq.refl _)) .nil))) ?_
  repeat' first
    | (with_reducible first | refine NeedI.mk (fun h => h) ?_ | refine NeedI.mk (fun h => h.2) ?_ | refine NeedI.mk (fun h => h.1) ?_ | (show Done; exact Done.mk) | refine Both.mk (fun _ => ?_) (fun _ => ?_) | refine Both2.mk (fun _ => ?_) ?_ | (refine Need.mk ?_ ?_; (first | omega | with_reducible exact CEq.refl _ | (dsimp only; omega) | (dsimp only [rng]; omega) | (rw [Int.toNat_natCast]; omega))))
    | ((with_reducible refine Need.mk ?_ ?_); exact CEq.refl _)
    | ((with_reducible fail_if_success first | refine LoopVC.mk ?_ | refine Need.mk ?_ ?_ | refine CallVC.mk ?_ | refine LoopEnd.mk ?_ | refine Out.mk ?_ | show False | refine NeedI.mk ?_ ?_); conv => whnf)
  · rename_i h
    have h : subNo d k p s := by
      simp only [Bool.or_eq_true, Bool.not_eq_true', decide_eq_false_iff_not, decide_eq_true_eq, or_assoc] at h
      exact h
    rw [show subm d k p s = (d, 0, 1) from if_pos h]
    repeat' first
      | (with_reducible first | refine NeedI.mk (fun h => h) ?_ | refine NeedI.mk (fun h => h.2) ?_ | refine NeedI.mk (fun h => h.1) ?_ | (show Done; exact Done.mk) | refine Both.mk (fun _ => ?_) (fun _ => ?_) | refine Both2.mk (fun _ => ?_) ?_ | (refine Need.mk ?_ ?_; (first | omega | with_reducible exact CEq.refl _ | (dsimp only; omega) | (dsimp only [rng]; omega) | (rw [Int.toNat_natCast]; omega))))
      | ((with_reducible refine Need.mk ?_ ?_); exact CEq.refl _)
      | ((with_reducible fail_if_success first | refine LoopVC.mk ?_ | refine Need.mk ?_ ?_ | refine CallVC.mk ?_ | refine LoopEnd.mk ?_ | refine Out.mk ?_ | show False | refine NeedI.mk ?_ ?_); conv => whnf)
  · rename_i h0 h
    have h0 : ¬ subNo d k p s := by
      simp only [Bool.or_eq_false_iff, Bool.not_eq_false', decide_eq_false_iff_not, decide_eq_true_eq] at h0
      rintro (x | x | x)
      · exact x h0.1.1
      · exact h0.1.2 x
      · exact x h0.2
    have h := of_decide_eq_true h
    rw [show subm d k p s = (d, 0, 6) by unfold subm; rw [if_neg h0, if_pos (by omega)]]
    repeat' first
      | (with_reducible first | refine NeedI.mk (fun h => h) ?_ | refine NeedI.mk (fun h => h.2) ?_ | refine NeedI.mk (fun h => h.1) ?_ | (show Done; exact Done.mk) | refine Both.mk (fun _ => ?_) (fun _ => ?_) | refine Both2.mk (fun _ => ?_) ?_ | (refine Need.mk ?_ ?_; (first | omega | with_reducible exact CEq.refl _ | (dsimp only; omega) | (dsimp only [rng]; omega) | (rw [Int.toNat_natCast]; omega))))
      | ((with_reducible refine Need.mk ?_ ?_); exact CEq.refl _)
      | ((with_reducible fail_if_success first | refine LoopVC.mk ?_ | refine Need.mk ?_ ?_ | refine CallVC.mk ?_ | refine LoopEnd.mk ?_ | refine Out.mk ?_ | show False | refine NeedI.mk ?_ ?_); conv => whnf)
  rename_i h0 h
  have h0 : ¬ subNo d k p s := by
    simp only [Bool.or_eq_false_iff, Bool.not_eq_false', decide_eq_false_iff_not, decide_eq_true_eq] at h0
    rintro (x | x | x)
    · exact x h0.1.1
    · exact h0.1.2 x
    · exact x h0.2
  have h := of_decide_eq_false h
  have hv : rightV d := Classical.byContradiction fun x => h0 (.inl x)
  have hn := hv.2.1
  rw [show subm d k p s = (⟨d.disk, d.next + 1, d.flight ++ [⟨d.next, k, p, s⟩]⟩, d.next, 0) by unfold subm; rw [if_neg h0, if_neg (by omega)]]
  repeat' first
    | (with_reducible first | refine NeedI.mk (fun h => h) ?_ | refine NeedI.mk (fun h => h.2) ?_ | refine NeedI.mk (fun h => h.1) ?_ | (show Done; exact Done.mk) | refine Both.mk (fun _ => ?_) (fun _ => ?_) | refine Both2.mk (fun _ => ?_) ?_ | (refine Need.mk ?_ ?_; (first | omega | with_reducible exact CEq.refl _ | (dsimp only; omega) | (dsimp only [rng]; omega) | (rw [Int.toNat_natCast]; omega))))
    | ((with_reducible refine Need.mk ?_ ?_); exact CEq.refl _)
    | ((with_reducible fail_if_success first | refine LoopVC.mk ?_ | refine Need.mk ?_ ?_ | refine CallVC.mk ?_ | refine LoopEnd.mk ?_ | refine Out.mk ?_ | show False | refine NeedI.mk ?_ ?_); conv => whnf)
  refine Need.mk (((IsL.app (size := 4) (enc := rqE) (l := d.flight) IsL.refl rfl (IsL.one (x := ⟨d.next, k, p, s⟩) fun j hj => by
    rcases (show j = 0 ∨ j = 1 ∨ j = 2 ∨ j = 3 by omega) with rfl | rfl | rfl | rfl <;> exact CEq.refl _)).off).ceq (by simp)) ?_
  repeat' first
    | (with_reducible first | refine NeedI.mk (fun h => h) ?_ | refine NeedI.mk (fun h => h.2) ?_ | refine NeedI.mk (fun h => h.1) ?_ | (show Done; exact Done.mk) | refine Both.mk (fun _ => ?_) (fun _ => ?_) | refine Both2.mk (fun _ => ?_) ?_ | (refine Need.mk ?_ ?_; (first | omega | with_reducible exact CEq.refl _ | (dsimp only; omega) | (dsimp only [rng]; omega) | (rw [Int.toNat_natCast]; omega))))
    | ((with_reducible refine Need.mk ?_ ?_); exact CEq.refl _)
    | ((with_reducible fail_if_success first | refine LoopVC.mk ?_ | refine Need.mk ?_ ?_ | refine CallVC.mk ?_ | refine LoopEnd.mk ?_ | refine Out.mk ?_ | show False | refine NeedI.mk ?_ ?_); conv => whnf)
theorem rq_eq {a b : Rq} : (decide (a.ticket = b.ticket) && (decide (a.kind = b.kind) && (decide (a.page = b.page) && decide (a.data = b.data)))) = decide (a = b) := by
  rw [Bool.eq_iff_iff]
  simp only [Bool.and_eq_true, decide_eq_true_eq]
  cases a; cases b; simp
set_option maxHeartbeats 8000000 in
set_option maxRecDepth 100000 in
theorem rsameV_ok (R : KRV P F) (a b : Dv) (Sa : SmallV a) (Sb : SmallV b) : FnOk P (F 170) [.many 4 (dvE a), .many 4 (dvE b)] [.one (.im (.bool (decide (a = b))))] := by
  refine fnOk R.r.m R.same ?_
  have h1 := Sa.f
  have h2 := Sb.f
  repeat' first
    | (with_reducible first | refine NeedI.mk (fun h => h) ?_ | refine NeedI.mk (fun h => h.2) ?_ | refine NeedI.mk (fun h => h.1) ?_ | (show Done; exact Done.mk) | refine Both.mk (fun _ => ?_) (fun _ => ?_) | refine Both2.mk (fun _ => ?_) ?_ | (refine Need.mk ?_ ?_; (first | omega | with_reducible exact CEq.refl _ | (dsimp only; omega) | (dsimp only [rng]; omega) | (rw [Int.toNat_natCast]; omega))))
    | ((with_reducible refine Need.mk ?_ ?_); exact CEq.refl _)
    | ((with_reducible fail_if_success first | refine LoopVC.mk ?_ | refine Need.mk ?_ ?_ | refine CallVC.mk ?_ | refine LoopEnd.mk ?_ | refine Out.mk ?_ | show False | refine NeedI.mk ?_ ?_); conv => whnf)
  refine CallVC.mk' (fun _ => S03.same_ok R.r a.disk b.disk Sa.k Sb.k) (fun _ => .cons ((.many fun j hj => by (rcases (show j = 0 ∨ j = 1 by omega) with rfl | rfl <;> exact CEq.refl _))) (.cons ((.many fun j hj => by (rcases (show j = 0 ∨ j = 1 by omega) with rfl | rfl <;> exact CEq.refl _))) .nil)) ?_
  repeat' first
    | (with_reducible first | refine NeedI.mk (fun h => h) ?_ | refine NeedI.mk (fun h => h.2) ?_ | refine NeedI.mk (fun h => h.1) ?_ | (show Done; exact Done.mk) | refine Both.mk (fun _ => ?_) (fun _ => ?_) | refine Both2.mk (fun _ => ?_) ?_ | (refine Need.mk ?_ ?_; (first | omega | with_reducible exact CEq.refl _ | (dsimp only; omega) | (dsimp only [rng]; omega) | (rw [Int.toNat_natCast]; omega))))
    | ((with_reducible refine Need.mk ?_ ?_); exact CEq.refl _)
    | ((with_reducible fail_if_success first | refine LoopVC.mk ?_ | refine Need.mk ?_ ?_ | refine CallVC.mk ?_ | refine LoopEnd.mk ?_ | refine Out.mk ?_ | show False | refine NeedI.mk ?_ ?_); conv => whnf)
  · rename_i h
    rw [decide_eq_false (fun x : a = b => by subst x; simp at h)]
    repeat' first
      | (with_reducible first | refine NeedI.mk (fun h => h) ?_ | refine NeedI.mk (fun h => h.2) ?_ | refine NeedI.mk (fun h => h.1) ?_ | (show Done; exact Done.mk) | refine Both.mk (fun _ => ?_) (fun _ => ?_) | refine Both2.mk (fun _ => ?_) ?_ | (refine Need.mk ?_ ?_; (with_reducible exact Nat.le_of_eq (Nat.zero_add _))))
      | ((with_reducible refine Need.mk ?_ ?_); exact CEq.refl _)
      | ((with_reducible fail_if_success first | refine LoopVC.mk ?_ | refine Need.mk ?_ ?_ | refine CallVC.mk ?_ | refine LoopEnd.mk ?_ | refine Out.mk ?_ | show False | refine NeedI.mk ?_ ?_); conv => whnf)
  rename_i h
  simp only [Bool.or_eq_false_iff, Bool.not_eq_false', decide_eq_true_eq] at h
  obtain ⟨⟨e1, e2⟩, e3⟩ := h
  have e3 : a.flight.length = b.flight.length := by have : (a.flight.length : Int) = b.flight.length := by simpa using e3
                                                    omega
  have e2 : a.next = b.next := by simpa using e2
  refine LoopVC.inv (fun i : Nat => i ≤ a.flight.length ∧ ∀ k, k < i → a.flight.getD k default = b.flight.getD k default) (fun i => stL [(2, .va 2 0 0), (3, .va 3 0 0), (5, .c (.int .i64 i))]
    [(2, vE [.c (slL 1 strE a.disk.secs), .c (slL 2 wrE a.disk.cache), .c (.int .i64 a.next), .c (slL 4 rqE a.flight)]), (3, vE [.c (slL 1 strE b.disk.secs), .c (slL 2 wrE b.disk.cache), .c (.int .i64 b.next), .c (slL 4 rqE b.flight)])]) (fun i => a.flight.length - i) 0 ⟨Nat.zero_le _, fun k hk => by omega⟩ ?_ ?_
  · (refine Le.of ?_ ?_ <;> repeat' first | exact trivial | exact CEq.refl _ | exact rfl | exact cI (by push_cast; first | rfl | omega) | exact SubE.dat fun _ _ _ _ => CEq.refl _ | refine SubE.var2 ?_ ?_ | refine SubE.var1 ?_ | refine SubE.var3 ?_ ?_ ?_ | refine SubE.var4 ?_ ?_ ?_ ?_ | refine SubE.var5 ?_ ?_ ?_ ?_ ?_ | refine Exists.intro _ (And.intro rfl ?_) | refine And.intro ?_ ?_)
  rintro Q hQ i ⟨hi, hok⟩
  repeat' first
    | (with_reducible first | refine NeedI.mk (fun h => h) ?_ | refine NeedI.mk (fun h => h.2) ?_ | refine NeedI.mk (fun h => h.1) ?_ | (show Done; exact Done.mk) | refine Both.mk (fun _ => ?_) (fun _ => ?_) | refine Both2.mk (fun _ => ?_) ?_ | (refine Need.mk ?_ ?_; (first | omega | with_reducible exact CEq.refl _ | (dsimp only; omega) | (dsimp only [rng]; omega) | (rw [Int.toNat_natCast]; omega))))
    | ((with_reducible refine Need.mk ?_ ?_); exact CEq.refl _)
    | ((with_reducible fail_if_success first | refine LoopVC.mk ?_ | refine Need.mk ?_ ?_ | refine CallVC.mk ?_ | refine LoopEnd.mk ?_ | refine Out.mk ?_ | show False | refine NeedI.mk ?_ ?_); conv => whnf)
  · rename_i g1
    have g1 : (i : Int) < a.flight.length := of_decide_eq_true g1
    repeat' first
      | (with_reducible first | refine NeedI.mk (fun h => h) ?_ | refine NeedI.mk (fun h => h.2) ?_ | refine NeedI.mk (fun h => h.1) ?_ | (show Done; exact Done.mk) | refine Both.mk (fun _ => ?_) (fun _ => ?_) | refine Both2.mk (fun _ => ?_) ?_ | (refine Need.mk ?_ ?_; (first | omega | with_reducible exact CEq.refl _ | (dsimp only; omega) | (rw [Int.toNat_natCast]; omega) | (dsimp only [rng]; omega))))
      | ((with_reducible refine Need.mk ?_ ?_); exact CEq.refl _)
      | ((with_reducible fail_if_success first | refine LoopVC.mk ?_ | refine Need.mk ?_ ?_ | refine CallVC.mk ?_ | refine LoopEnd.mk ?_ | refine Out.mk ?_ | show False | refine NeedI.mk ?_ ?_); conv => whnf)
    · rename_i g2
      rw [Int.toNat_natCast, cond_true, rq_eq] at g2
      simp only [Bool.not_eq_true', decide_eq_false_iff_not] at g2
      refine Out.mk (hQ _ _ ?_)
      rw [decide_eq_false (fun x : a = b => g2 (by rw [x]))]
      repeat' first
        | (with_reducible first | refine NeedI.mk (fun h => h) ?_ | refine NeedI.mk (fun h => h.2) ?_ | refine NeedI.mk (fun h => h.1) ?_ | (show Done; exact Done.mk) | refine Both.mk (fun _ => ?_) (fun _ => ?_) | refine Both2.mk (fun _ => ?_) ?_ | (refine Need.mk ?_ ?_; (with_reducible exact Nat.le_of_eq (Nat.zero_add _))))
        | ((with_reducible refine Need.mk ?_ ?_); exact CEq.refl _)
        | ((with_reducible fail_if_success first | refine LoopVC.mk ?_ | refine Need.mk ?_ ?_ | refine CallVC.mk ?_ | refine LoopEnd.mk ?_ | refine Out.mk ?_ | show False | refine NeedI.mk ?_ ?_); conv => whnf)
    · rename_i g2
      rw [Int.toNat_natCast, cond_true, rq_eq] at g2
      simp only [Bool.not_eq_false', decide_eq_true_eq] at g2
      refine LoopEnd.mk ⟨i + 1, ⟨by omega, fun k hk => ?_⟩, by omega, by (refine Le.of ?_ ?_ <;> repeat' first | exact trivial | exact CEq.refl _ | exact rfl | exact cI (by push_cast; first | rfl | omega) | exact SubE.dat fun _ _ _ _ => CEq.refl _ | refine SubE.var2 ?_ ?_ | refine SubE.var1 ?_ | refine SubE.var3 ?_ ?_ ?_ | refine SubE.var4 ?_ ?_ ?_ ?_ | refine SubE.var5 ?_ ?_ ?_ ?_ ?_ | refine Exists.intro _ (And.intro rfl ?_) | refine And.intro ?_ ?_)⟩
      rcases Nat.lt_or_ge k i with h9 | h9
      · exact hok k h9
      · obtain rfl : k = i := by omega
        exact g2
  · rename_i g1
    have g1 : ¬ (i : Int) < a.flight.length := of_decide_eq_false g1
    refine Out.mk (hQ _ _ ?_)
    rw [decide_eq_true (show a = b from by
      have e4 := eq_of_getD e3 (fun k hk => hok k (by omega))
      cases a; cases b
      simp only at e1 e2 e4
      subst e1 e2 e4; rfl)]
    repeat' first
      | (with_reducible first | refine NeedI.mk (fun h => h) ?_ | refine NeedI.mk (fun h => h.2) ?_ | refine NeedI.mk (fun h => h.1) ?_ | (show Done; exact Done.mk) | refine Both.mk (fun _ => ?_) (fun _ => ?_) | refine Both2.mk (fun _ => ?_) ?_ | (refine Need.mk ?_ ?_; (with_reducible exact Nat.le_of_eq (Nat.zero_add _))))
      | ((with_reducible refine Need.mk ?_ ?_); exact CEq.refl _)
      | ((with_reducible fail_if_success first | refine LoopVC.mk ?_ | refine Need.mk ?_ ?_ | refine CallVC.mk ?_ | refine LoopEnd.mk ?_ | refine Out.mk ?_ | show False | refine NeedI.mk ?_ ?_); conv => whnf)
/-- A device as the reference takes it. -/
def refB (d : Dv) (i : Nat) : Bool := decide (100 < (d.flight.getD i default).data.length)
def refN (d : Dv) : Nat := if tiny d.disk ∧ d.flight.length ≤ 20 then fstN (refB d) d.flight.length else 0
def refOk (d : Dv) : Prop := (tiny d.disk ∧ d.flight.length ≤ 20) ∧ fstN (refB d) d.flight.length = d.flight.length
instance (d : Dv) : Decidable (refOk d) := by unfold refOk; infer_instance
def refV (d : Dv) : Dv := ⟨d.disk, d.next, d.flight.take (refN d)⟩
theorem refV_ok {d : Dv} (h : refOk d) : refV d = d := by
  unfold refV refN
  rw [if_pos h.1, h.2, List.take_length]
theorem refOk.small {d : Dv} (h : refOk d) : SmallV d :=
  ⟨h.1.1.small, by have := h.1.2; omega, all_of_getD fun i hi => by
    have := fstN_ahead (p := refB d) (n := d.flight.length) (j := i) (by rw [h.2]; exact hi)
    have := of_decide_eq_false this; omega⟩
set_option maxHeartbeats 8000000 in
set_option maxRecDepth 100000 in
theorem ref_ok (R : KRV P F) (d : Dv) (W : EDv.wf d) :
    FnOk P (F 166) [.many 4 (dvE d)] [.many 4 (fun j => .im (dvE (refV d) j)), .one (.im (.bool (decide (refOk d))))] := by
  refine fnOk R.r.m R.ref ?_
  have W1 := W.2.2.1
  repeat' first
    | (with_reducible first | refine NeedI.mk (fun h => h) ?_ | refine NeedI.mk (fun h => h.2) ?_ | refine NeedI.mk (fun h => h.1) ?_ | (show Done; exact Done.mk) | refine Both.mk (fun _ => ?_) (fun _ => ?_) | refine Both2.mk (fun _ => ?_) ?_ | (refine Need.mk ?_ ?_; (first | omega | with_reducible exact CEq.refl _ | (dsimp only; omega) | (dsimp only [rng]; omega) | (rw [Int.toNat_natCast]; omega))))
    | ((with_reducible refine Need.mk ?_ ?_); exact CEq.refl _)
    | ((with_reducible fail_if_success first | refine LoopVC.mk ?_ | refine Need.mk ?_ ?_ | refine CallVC.mk ?_ | refine LoopEnd.mk ?_ | refine Out.mk ?_ | show False | refine NeedI.mk ?_ ?_); conv => whnf)
  refine CallVC.mk' (fun _ => S03.small_ok R.r d.disk W.1) (fun _ => .cons ((.many fun j hj => by (rcases (show j = 0 ∨ j = 1 by omega) with rfl | rfl <;> exact CEq.refl _))) .nil) ?_
  repeat' first
    | (with_reducible first | refine NeedI.mk (fun h => h) ?_ | refine NeedI.mk (fun h => h.2) ?_ | refine NeedI.mk (fun h => h.1) ?_ | (show Done; exact Done.mk) | refine Both.mk (fun _ => ?_) (fun _ => ?_) | refine Both2.mk (fun _ => ?_) ?_ | (refine Need.mk ?_ ?_; (first | omega | with_reducible exact CEq.refl _ | (dsimp only; omega) | (dsimp only [rng]; omega) | (rw [Int.toNat_natCast]; omega))))
    | ((with_reducible refine Need.mk ?_ ?_); exact CEq.refl _)
    | ((with_reducible fail_if_success first | refine LoopVC.mk ?_ | refine Need.mk ?_ ?_ | refine CallVC.mk ?_ | refine LoopEnd.mk ?_ | refine Out.mk ?_ | show False | refine NeedI.mk ?_ ?_); conv => whnf)
  · rename_i h
    have h : ¬ (tiny d.disk ∧ d.flight.length ≤ 20) := fun x => by rw [decide_eq_true x.1] at h; simp only [Bool.not_true, Bool.false_or, decide_eq_true_eq] at h; omega
    have e : refV d = ⟨d.disk, d.next, []⟩ := by unfold refV refN; rw [if_neg h, List.take_zero]
    rw [e, decide_eq_false (fun x : refOk d => h x.1)]
    repeat' first
      | (with_reducible first | refine NeedI.mk (fun h => h) ?_ | refine NeedI.mk (fun h => h.2) ?_ | refine NeedI.mk (fun h => h.1) ?_ | (show Done; exact Done.mk) | refine Both.mk (fun _ => ?_) (fun _ => ?_) | refine Both2.mk (fun _ => ?_) ?_ | (refine Need.mk ?_ ?_; (first | omega | with_reducible exact CEq.refl _ | (dsimp only; omega) | (dsimp only [rng]; omega) | (rw [Int.toNat_natCast]; omega))))
      | ((with_reducible refine Need.mk ?_ ?_); exact CEq.refl _)
      | ((with_reducible fail_if_success first | refine LoopVC.mk ?_ | refine Need.mk ?_ ?_ | refine CallVC.mk ?_ | refine LoopEnd.mk ?_ | refine Out.mk ?_ | show False | refine NeedI.mk ?_ ?_); conv => whnf)
    refine Need.mk ceq_nil ?_
    repeat' first
      | (with_reducible first | refine NeedI.mk (fun h => h) ?_ | refine NeedI.mk (fun h => h.2) ?_ | refine NeedI.mk (fun h => h.1) ?_ | (show Done; exact Done.mk) | refine Both.mk (fun _ => ?_) (fun _ => ?_) | refine Both2.mk (fun _ => ?_) ?_ | (refine Need.mk ?_ ?_; (first | omega | with_reducible exact CEq.refl _ | (dsimp only; omega) | (dsimp only [rng]; omega) | (rw [Int.toNat_natCast]; omega))))
      | ((with_reducible refine Need.mk ?_ ?_); exact CEq.refl _)
      | ((with_reducible fail_if_success first | refine LoopVC.mk ?_ | refine Need.mk ?_ ?_ | refine CallVC.mk ?_ | refine LoopEnd.mk ?_ | refine Out.mk ?_ | show False | refine NeedI.mk ?_ ?_); conv => whnf)
  rename_i h
  have h : tiny d.disk ∧ d.flight.length ≤ 20 := by
    simp only [Bool.or_eq_false_iff, Bool.not_eq_false', decide_eq_true_eq, decide_eq_false_iff_not] at h
    exact ⟨h.1, by omega⟩
  refine LoopVC.inv (fun i : Nat => i ≤ d.flight.length ∧ ∀ k, k < i → refB d k = false) (fun i => stL [(2, .va 2 0 0), (4, .va 4 0 0), (24, .c (slL 4 rqE d.flight)), (25, .c (.int .i64 d.flight.length)), (26, .c (.int .i64 i))]
    [(2, vE [.nil 1, .nil 2, .c (.int .i64 0), .nil 4]), (4, vE [.c (slL 1 strE d.disk.secs), .c (slL 2 wrE d.disk.cache), .c (.int .i64 d.next), .os 39 0 4 0 i]), (39, ⟨4, i, .dat fun r j => rqE (d.flight.getD r default) j, false, true⟩)]) (fun i => d.flight.length - i) 0 ⟨Nat.zero_le _, fun k hk => by omega⟩ ?_ ?_
  · (refine Le.ofN [39] ?_ ?_ <;> repeat' first | exact trivial | exact SubF.inr ⟨_, _, _, rfl, rfl, rfl⟩ | exact SubF.inl (cI (by push_cast; first | rfl | omega)) | exact SubF.inl (CEq.refl _) | exact SubF.inl rfl | exact SubF.inl trivial | exact SubF.inl ⟨rfl, rfl, rfl⟩ | exact SubF.inl ⟨rfl, rfl, rfl, rfl, rfl⟩ | exact Or.inl ⟨rfl, rfl⟩ | refine Or.inr ⟨rfl, _, rfl, ?_⟩ | refine SubEF.var2 ?_ ?_ | refine SubEF.var1 ?_ | refine SubEF.var3 ?_ ?_ ?_ | refine SubEF.var4 ?_ ?_ ?_ ?_ | exact SubEF.of (SubE.dat fun _ _ _ _ => CEq.refl _) | refine And.intro ?_ ?_ | refine SubF.frz rfl rfl rfl rfl (Nat.le_of_eq (Nat.zero_add _)) rfl rfl ?_)
  rintro Q hQ i ⟨hi, hb⟩
  have hsub : ∀ L : List Rq, L = d.flight.take i → CEq (Cell.sl 4 i fun r j => rqE (d.flight.getD (addN 0 r) default) j) (slL 4 rqE L) := fun L hL => IsL.ceq (l := L) (fun r hr j hj => by
    subst hL
    have hr : r < i := by rw [List.length_take] at hr; omega
    rw [addN_eq, Nat.zero_add, getD_eq (show r < d.flight.length by omega), getD_eq (by rw [List.length_take]; omega), List.getElem_take]
    exact CEq.refl _) (by rw [hL, List.length_take]; omega)
  repeat' first
    | (with_reducible first | refine NeedI.mk (fun h => h) ?_ | refine NeedI.mk (fun h => h.2) ?_ | refine NeedI.mk (fun h => h.1) ?_ | (show Done; exact Done.mk) | refine Both.mk (fun _ => ?_) (fun _ => ?_) | refine Both2.mk (fun _ => ?_) ?_ | (refine Need.mk ?_ ?_; (first | omega | with_reducible exact CEq.refl _ | (dsimp only; omega) | (dsimp only [rng]; omega) | (rw [Int.toNat_natCast]; omega))))
    | ((with_reducible refine Need.mk ?_ ?_); exact CEq.refl _)
    | ((with_reducible fail_if_success first | refine LoopVC.mk ?_ | refine Need.mk ?_ ?_ | refine CallVC.mk ?_ | refine LoopEnd.mk ?_ | refine Out.mk ?_ | show False | refine NeedI.mk ?_ ?_); conv => whnf)
  · rename_i h1
    have h1 : (i : Int) < d.flight.length := of_decide_eq_true h1
    repeat' first
      | (with_reducible first | refine NeedI.mk (fun h => h) ?_ | refine NeedI.mk (fun h => h.2) ?_ | refine NeedI.mk (fun h => h.1) ?_ | (show Done; exact Done.mk) | refine Both.mk (fun _ => ?_) (fun _ => ?_) | refine Both2.mk (fun _ => ?_) ?_ | (refine Need.mk ?_ ?_; (first | omega | with_reducible exact CEq.refl _ | (dsimp only; omega) | (dsimp only [rng]; omega) | (rw [Int.toNat_natCast]; omega))))
      | ((with_reducible refine Need.mk ?_ ?_); exact CEq.refl _)
      | ((with_reducible fail_if_success first | refine LoopVC.mk ?_ | refine Need.mk ?_ ?_ | refine CallVC.mk ?_ | refine LoopEnd.mk ?_ | refine Out.mk ?_ | show False | refine NeedI.mk ?_ ?_); conv => whnf)
    · rename_i h2
      have h2 : refB d i = true := by have h2 := of_decide_eq_true h2; rw [Int.toNat_natCast] at h2; exact decide_eq_true (by omega)
      have hf : fstN (refB d) d.flight.length = i := fstN_eq hi hb (fun _ => h2)
      have e : refV d = ⟨d.disk, d.next, d.flight.take i⟩ := by unfold refV refN; rw [if_pos h, hf]
      refine Out.mk (hQ _ _ ?_)
      rw [e, decide_eq_false (fun x : refOk d => by have := x.2; omega)]
      have hsub := hsub _ rfl
      repeat' first
        | (with_reducible first | refine NeedI.mk (fun h => h) ?_ | refine NeedI.mk (fun h => h.2) ?_ | refine NeedI.mk (fun h => h.1) ?_ | (show Done; exact Done.mk) | refine Both.mk (fun _ => ?_) (fun _ => ?_) | refine Both2.mk (fun _ => ?_) ?_ | (refine Need.mk ?_ ?_; (first | omega | with_reducible exact CEq.refl _ | (dsimp only; omega) | (dsimp only [rng]; omega) | (rw [Int.toNat_natCast]; omega))))
        | ((with_reducible refine Need.mk ?_ ?_); exact CEq.refl _)
        | ((with_reducible fail_if_success first | refine LoopVC.mk ?_ | refine Need.mk ?_ ?_ | refine CallVC.mk ?_ | refine LoopEnd.mk ?_ | refine Out.mk ?_ | show False | refine NeedI.mk ?_ ?_); conv => whnf)
      refine Need.mk hsub ?_
      repeat' first
        | (with_reducible first | refine NeedI.mk (fun h => h) ?_ | refine NeedI.mk (fun h => h.2) ?_ | refine NeedI.mk (fun h => h.1) ?_ | (show Done; exact Done.mk) | refine Both.mk (fun _ => ?_) (fun _ => ?_) | refine Both2.mk (fun _ => ?_) ?_ | (refine Need.mk ?_ ?_; (first | omega | with_reducible exact CEq.refl _ | (dsimp only; omega) | (dsimp only [rng]; omega) | (rw [Int.toNat_natCast]; omega))))
        | ((with_reducible refine Need.mk ?_ ?_); exact CEq.refl _)
        | ((with_reducible fail_if_success first | refine LoopVC.mk ?_ | refine Need.mk ?_ ?_ | refine CallVC.mk ?_ | refine LoopEnd.mk ?_ | refine Out.mk ?_ | show False | refine NeedI.mk ?_ ?_); conv => whnf)
    · rename_i h2
      have h2 : refB d i = false := by have h2 := of_decide_eq_false h2; rw [Int.toNat_natCast] at h2; exact decide_eq_false (by omega)
      repeat' first
        | (with_reducible first | refine NeedI.mk (fun h => h) ?_ | refine NeedI.mk (fun h => h.2) ?_ | refine NeedI.mk (fun h => h.1) ?_ | (show Done; exact Done.mk) | refine Both.mk (fun _ => ?_) (fun _ => ?_) | refine Both2.mk (fun _ => ?_) ?_ | (refine Need.mk ?_ ?_; (first | omega | with_reducible exact CEq.refl _ | (dsimp only; omega) | (dsimp only [rng]; omega) | (rw [Int.toNat_natCast]; omega))))
        | ((with_reducible refine Need.mk ?_ ?_); exact CEq.refl _)
        | ((with_reducible fail_if_success first | refine LoopVC.mk ?_ | refine Need.mk ?_ ?_ | refine CallVC.mk ?_ | refine LoopEnd.mk ?_ | refine Out.mk ?_ | show False | refine NeedI.mk ?_ ?_); conv => whnf)
      refine LoopEnd.mk ⟨i + 1, ⟨by omega, fun k hk => ?_⟩, by omega, ?_⟩
      · by_cases e : k = i
        · rw [e]; exact h2
        · exact hb k (by omega)
      (refine Le.of ?_ ?_ <;> repeat' first | exact trivial | exact CEq.refl _ | exact rfl | exact cI (by push_cast; first | rfl | omega) | exact SubE.dat fun _ _ _ _ => CEq.refl _ | refine SubE.var2 ?_ ?_ | refine SubE.var1 ?_ | refine SubE.var3 ?_ ?_ ?_ | refine SubE.var4 ?_ ?_ ?_ ?_ | refine SubE.var5 ?_ ?_ ?_ ?_ ?_ | refine Exists.intro _ (And.intro rfl ?_) | refine And.intro ?_ ?_)
      refine SubE.dat fun r hr j hj => ?_
      have hr : r < i + 1 := hr
      rw [appC_at]
      by_cases e : i ≤ r
      · rw [if_pos e]
        obtain rfl : r = i := by omega
        rw [Nat.sub_self]
        have hj : j < 4 := hj
        rcases (show j = 0 ∨ j = 1 ∨ j = 2 ∨ j = 3 by omega) with rfl | rfl | rfl | rfl <;> exact CEq.refl _
      · rw [if_neg e]; exact CEq.refl _
  · rename_i h1
    have h1 : i = d.flight.length := by have := of_decide_eq_false h1; omega
    have hf : fstN (refB d) d.flight.length = d.flight.length := fstN_eq (Nat.le_refl _) (fun j hj => hb j (by omega)) (fun x => by omega)
    have ho : refOk d := ⟨h, hf⟩
    refine Out.mk (hQ _ _ ?_)
    rw [refV_ok ho, decide_eq_true ho]
    have hsub := hsub d.flight (by rw [h1, List.take_length])
    repeat' first
      | (with_reducible first | refine NeedI.mk (fun h => h) ?_ | refine NeedI.mk (fun h => h.2) ?_ | refine NeedI.mk (fun h => h.1) ?_ | (show Done; exact Done.mk) | refine Both.mk (fun _ => ?_) (fun _ => ?_) | refine Both2.mk (fun _ => ?_) ?_ | (refine Need.mk ?_ ?_; (first | omega | with_reducible exact CEq.refl _ | (dsimp only; omega) | (dsimp only [rng]; omega) | (rw [Int.toNat_natCast]; omega))))
      | ((with_reducible refine Need.mk ?_ ?_); exact CEq.refl _)
      | ((with_reducible fail_if_success first | refine LoopVC.mk ?_ | refine Need.mk ?_ ?_ | refine CallVC.mk ?_ | refine LoopEnd.mk ?_ | refine Out.mk ?_ | show False | refine NeedI.mk ?_ ?_); conv => whnf)
    refine Need.mk hsub ?_
    repeat' first
      | (with_reducible first | refine NeedI.mk (fun h => h) ?_ | refine NeedI.mk (fun h => h.2) ?_ | refine NeedI.mk (fun h => h.1) ?_ | (show Done; exact Done.mk) | refine Both.mk (fun _ => ?_) (fun _ => ?_) | refine Both2.mk (fun _ => ?_) ?_ | (refine Need.mk ?_ ?_; (first | omega | with_reducible exact CEq.refl _ | (dsimp only; omega) | (dsimp only [rng]; omega) | (rw [Int.toNat_natCast]; omega))))
      | ((with_reducible refine Need.mk ?_ ?_); exact CEq.refl _)
      | ((with_reducible fail_if_success first | refine LoopVC.mk ?_ | refine Need.mk ?_ ?_ | refine CallVC.mk ?_ | refine LoopEnd.mk ?_ | refine Out.mk ?_ | show False | refine NeedI.mk ?_ ?_); conv => whnf)
end
end Lk.S04
