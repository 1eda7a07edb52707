/-
  Gs04a: what these chapters need.
-/
import Derived.Test.YtaijfhomokkpeaaCCb
import Derived.Test.YtaijfhomokkpeaaGs03a
import Derived.Test.YtaijfhomokkpeaaLkC
set_option linter.unusedSimpArgs false
set_option maxHeartbeats 8000000
set_option maxRecDepth 100000
set_option linter.unusedVariables false
namespace Lk.S04
open Go Lk Lk.C Lk.S03
structure Rq where
  ticket : Int
  kind : Int
  page : Int
  data : List UInt8
deriving DecidableEq
instance : Inhabited Rq := ⟨⟨0, 0, 0, []⟩⟩
structure Dv where
  disk : Dsk
  next : Int
  flight : List Rq
deriving DecidableEq
def rqE (r : Rq) (j : Nat) : Cell :=
  match j with
  | 0 => .int .i64 r.ticket
  | 1 => .int .i64 r.kind
  | 2 => .int .i64 r.page
  | _ => .str r.data
def dvE (d : Dv) (j : Nat) : Cell :=
  match j with
  | 0 => slL 1 strE d.disk.secs
  | 1 => slL 2 wrE d.disk.cache
  | 2 => .int .i64 d.next
  | _ => slL 4 rqE d.flight
def may (kind page : Int) (data : List UInt8) : Prop := kind = 1 ∧ (1 ≤ page ∧ page ≤ 16) ∧ data.length = 0 ∨ kind = 2 ∧ (1 ≤ page ∧ page ≤ 16) ∧ data.length = 32 ∨ kind = 3 ∧ page = 0 ∧ data.length = 0
instance (k p : Int) (s : List UInt8) : Decidable (may k p s) := by unfold may; infer_instance
def ahead (l : List Rq) (i : Nat) : Int := if i = 0 then -1 else (l.getD (i - 1) default).ticket
def okAt (n : Int) (l : List Rq) (i : Nat) : Prop := ahead l i < (l.getD i default).ticket ∧ (l.getD i default).ticket < n ∧ may (l.getD i default).kind (l.getD i default).page (l.getD i default).data
instance (n : Int) (l : List Rq) (i : Nat) : Decidable (okAt n l i) := by unfold okAt; infer_instance
def rightV (d : Dv) : Prop := (right d.disk ∧ 35 ≤ d.disk.secs.length) ∧ (0 ≤ d.next ∧ d.next ≤ 2147483647 ∧ d.flight.length ≤ 4) ∧ ∀ i, i < d.flight.length → okAt d.next d.flight i
instance (d : Dv) : Decidable (rightV d) := by unfold rightV; infer_instance
def hm (p : Int) : Int := 2 * p + 1
def subNo (d : Dv) (k p : Int) (s : List UInt8) : Prop := ¬ rightV d ∨ d.next = 2147483647 ∨ ¬ may k p s
instance (d : Dv) (k p : Int) (s : List UInt8) : Decidable (subNo d k p s) := by unfold subNo; infer_instance
def subm (d : Dv) (k p : Int) (s : List UInt8) : Dv × Int × Int :=
  if subNo d k p s then (d, 0, 1) else if 4 ≤ d.flight.length then (d, 0, 6) else (⟨d.disk, d.next + 1, d.flight ++ [⟨d.next, k, p, s⟩]⟩, d.next, 0)
def w0 (r : Rq) : Wr := ⟨hm r.page, r.data.take 16⟩
def w1 (r : Rq) : Wr := ⟨hm r.page + 1, r.data.drop 16⟩
def putR (d : Dsk) (r : Rq) : Dsk × Int := if d.putE (w0 r) ≠ 0 then (d, 7) else if (d.put (w0 r)).putE (w1 r) ≠ 0 then (d.put (w0 r), 7) else ((d.put (w0 r)).put (w1 r), 0)
def without (l : List Rq) (i : Nat) : List Rq := l.take i ++ l.drop (i + 1)
def two (d : Dsk) (p : Int) : List UInt8 := (d.rd (hm p)).1 ++ (d.rd (hm p + 1)).1
def fin1 (d : Dv) (r : Rq) (l : List Rq) : Dv × Rq × Int :=
  if r.kind = 1 then (⟨d.disk, d.next, l⟩, ⟨r.ticket, r.kind, r.page, two d.disk r.page⟩, 0)
  else if r.kind = 2 then (⟨(putR d.disk r).1, d.next, l⟩, r, (putR d.disk r).2)
  else (⟨d.disk.sync, d.next, l⟩, r, 0)
def finNo (d : Dv) (i : Int) : Prop := ¬ rightV d ∨ i < 0 ∨ (d.flight.length : Int) ≤ i
instance (d : Dv) (i : Int) : Decidable (finNo d i) := by unfold finNo; infer_instance
def finD (d : Dv) (i : Int) (fault : Bool) : Dv × Rq × Int :=
  if finNo d i then (d, ⟨0, 0, 0, []⟩, 1)
  else if fault then (⟨d.disk, d.next, without d.flight i.toNat⟩, d.flight.getD i.toNat default, 8)
  else fin1 d (d.flight.getD i.toNat default) (without d.flight i.toNat)
def crashV (d : Dv) (keep : List Int) : Dv := if rightV d then ⟨d.disk.crash keep, d.next, []⟩ else d
structure SmallV (d : Dv) : Prop where
  k : Small d.disk
  f : d.flight.length ≤ 1000000
  lf : ∀ r ∈ d.flight, r.data.length ≤ 1000000
def ERq : Enc Rq where
  sh := [.int .i64, .int .i64, .int .i64, .str]
  enc := rqE
  wf r := r.data.length ≤ 9223372036854775807
  dec g h := by
    obtain ⟨a, ha, _⟩ := (h 0 _ rfl).intE
    obtain ⟨b, hb, _⟩ := (h 1 _ rfl).intE
    obtain ⟨c, hc, _⟩ := (h 2 _ rfl).intE
    obtain ⟨s, hs, hl⟩ := (h 3 _ rfl).strE
    refine ⟨⟨a, b, c, s⟩, hl, fun j hj => ?_⟩
    have hj : j < 4 := hj
    rcases (show j = 0 ∨ j = 1 ∨ j = 2 ∨ j = 3 by omega) with rfl | rfl | rfl | rfl
    · rw [ha]; exact CEq.refl _
    · rw [hb]; exact CEq.refl _
    · rw [hc]; exact CEq.refl _
    · rw [hs]; exact CEq.refl _
def EDv : Enc Dv where
  sh := [.sl EStr.sh, .sl EWr.sh, .int .i64, .sl ERq.sh]
  enc := dvE
  wf d := EDsk.wf d.disk ∧ rng .i64 d.next ∧ d.flight.length ≤ 9223372036854775807 ∧ ∀ r ∈ d.flight, r.data.length ≤ 9223372036854775807
  dec g h := by
    obtain ⟨a, ha, hw⟩ := EDsk.dec g (fun j s hj => h j s (by
      rcases (show j = 0 ∨ j = 1 ∨ 2 ≤ j by omega) with rfl | rfl | h2
      · exact hj
      · exact hj
      · rw [show EDsk.sh = [.sl EStr.sh, .sl EWr.sh] from rfl, List.getElem?_eq_none (by simpa using h2)] at hj; cases hj))
    obtain ⟨n, hn, hr⟩ := (h 2 _ rfl).intE
    obtain ⟨l, h1, h2, h3⟩ := ERq.list (h 3 _ rfl)
    refine ⟨⟨a, n, l⟩, ⟨ha, hr, h2, h1⟩, fun j hj => ?_⟩
    have hj : j < 4 := hj
    rcases (show j = 0 ∨ j = 1 ∨ j = 2 ∨ j = 3 by omega) with rfl | rfl | rfl | rfl
    · exact hw 0 (by decide)
    · exact hw 1 (by decide)
    · rw [hn]; exact CEq.refl _
    · exact h3
section
variable {P : Program} {F : Nat → Nat}
theorem home_ok (hm' : P.follows .mixedOrders = true) (hk : device_home_k P F) (p : Int) (h1 : -1000000 ≤ p) (h2 : p ≤ 1000000) : FnOk P (F 147) [.one (.int .i64 p)] [.one (.im (.int .i64 (hm p)))] := by
  refine fnOk hm' hk ?_
  repeat' first | (with_reducible first | refine wkI ?_ | exact ⟨⟩ | refine wkB (fun _ => ?_) fun _ => ?_ | refine wkT (fun _ => ?_) ?_ | refine wkS ?_) | ((with_reducible refine wkC ?_ ?_); exact CEq.refl _) | ((with_reducible fail_if_success first | constructor | show False); conv => whnf)
theorem request_ok (hm' : P.follows .mixedOrders = true) (hk : device_request_k P F) (k p : Int) (s : List UInt8) (hs : s.length ≤ 9223372036854775807) :
    FnOk P (F 188) [.one (.int .i64 k), .one (.int .i64 p), .one (.str s)] [.one (.im (.bool (decide (may k p s))))] := by
  refine fnOk hm' hk ?_
  repeat' first | (with_reducible first | refine wkI ?_ | exact ⟨⟩ | refine wkB (fun _ => ?_) fun _ => ?_ | refine wkT (fun _ => ?_) ?_ | refine wkS ?_) | ((with_reducible refine wkC ?_ ?_); exact CEq.refl _) | ((with_reducible fail_if_success first | constructor | show False); conv => whnf)
  all_goals (refine Need.mk (eB (by (rw [Bool.eq_iff_iff]; simp only [← List.length_eq_zero_iff, Bool.and_eq_true, Bool.or_eq_true, Bool.or_eq_false_iff, Bool.and_eq_false_imp, Bool.not_eq_true', Bool.not_eq_false', decide_eq_true_eq, decide_eq_false_iff_not, Bool.false_eq_true, false_iff] at *; unfold may; omega))) ?_)
  all_goals
    repeat' first | (with_reducible first | refine wkI ?_ | exact ⟨⟩ | refine wkB (fun _ => ?_) fun _ => ?_ | refine wkT (fun _ => ?_) ?_ | refine wkF ?_) | ((with_reducible refine wkC ?_ ?_); exact CEq.refl _) | ((with_reducible fail_if_success first | constructor | show False); conv => whnf)
theorem rmay_ok (hm' : P.follows .mixedOrders = true) (hk : ref04_May_k P F) (k p : Int) (s : List UInt8) (hs : s.length ≤ 9223372036854775807) :
    FnOk P (F 190) [.one (.int .i64 k), .one (.int .i64 p), .one (.str s)] [.one (.im (.bool (decide (may k p s))))] := by
  refine fnOk hm' hk ?_
  repeat' first | (with_reducible first | refine wkI ?_ | exact ⟨⟩ | refine wkB (fun _ => ?_) fun _ => ?_ | refine wkT (fun _ => ?_) ?_ | refine wkS ?_) | ((with_reducible refine wkC ?_ ?_); exact CEq.refl _) | ((with_reducible fail_if_success first | constructor | show False); conv => whnf)
  all_goals (refine Need.mk (eB (by (rw [Bool.eq_iff_iff]; simp only [← List.length_eq_zero_iff, Bool.and_eq_true, Bool.or_eq_true, Bool.or_eq_false_iff, Bool.and_eq_false_imp, Bool.not_eq_true', Bool.not_eq_false', decide_eq_true_eq, decide_eq_false_iff_not, Bool.false_eq_true, false_iff] at *; unfold may; omega))) ?_)
  all_goals
    repeat' first | (with_reducible first | refine wkI ?_ | exact ⟨⟩ | refine wkB (fun _ => ?_) fun _ => ?_ | refine wkT (fun _ => ?_) ?_ | refine wkF ?_) | ((with_reducible refine wkC ?_ ?_); exact CEq.refl _) | ((with_reducible fail_if_success first | constructor | show False); conv => whnf)
end
end Lk.S04
namespace Lk.S04
open Go Lk Lk.C Lk.S03
theorem sl_Clone_device_Request_ok {P : Program} {F : Nat → Nat} (hm : P.follows .mixedOrders = true) (hk : sl_Clone_device_Request_k P F) (n : Nat) (f : Nat → Nat → Cell) (hn : n ≤ 1000000) : FnOk P (F 189) [.one (.sl 4 n f)] [.one (.ow 4 n f)] := by
  refine fnOk hm hk ?_
  repeat' first | (with_reducible first | refine wkI ?_ | exact ⟨⟩ | refine wkB (fun _ => ?_) fun _ => ?_ | refine wkT (fun _ => ?_) ?_ | (refine Need.mk ?_ ?_; (first | assumption | omega | with_reducible exact CEq.refl _ | exact ⟨rfl, rfl⟩ | exact Nat.zero_add _ | exact (Nat.zero_add _).symm | exact ⟨rfl, Nat.le_refl _, (Nat.zero_add _).symm⟩ | exact appC_zero))) | ((with_reducible fail_if_success first | constructor | show False); conv => whnf)
theorem sl_Grow_device_Request_ok {P : Program} {F : Nat → Nat} (hm : P.follows .mixedOrders = true) (hk : sl_Grow_device_Request_k P F) (n : Nat) (hn : n ≤ 1000000) :
    FnOk P (F 150) [.nil 4, .one (.int .i64 n)] [.one (.ow 4 0 fun _ _ => .bool false)] := by
  refine fnOk hm hk ?_
  repeat' first | (with_reducible first | refine wkI ?_ | exact ⟨⟩ | refine wkB (fun _ => ?_) fun _ => ?_ | refine wkT (fun _ => ?_) ?_ | refine wkS ?_) | ((with_reducible refine wkC ?_ ?_); exact CEq.refl _) | ((with_reducible fail_if_success first | constructor | show False); conv => whnf)
  · rename_i h
    have h := of_decide_eq_true h
    omega
theorem sl_Concat_device_Request_ok {P : Program} {F : Nat → Nat} (hm : P.follows .mixedOrders = true) (hk : sl_Concat_device_Request_k P F) (hg : sl_Grow_device_Request_k P F) (n0 n1 : Nat) (f0 f1 : Nat → Nat → Cell) (h : n0 + n1 ≤ 1000000) :
    FnOk P (F 146) [.one (.sl 1 2 (twoC (.sl 4 n0 f0) (.sl 4 n1 f1)))] [.one (.ow 4 (n0 + n1) (appC f0 n0 f1))] := by
  refine fnOk hm hk ?_
  repeat' first | (with_reducible first | refine wkI ?_ | exact ⟨⟩ | refine wkB (fun _ => ?_) fun _ => ?_ | refine wkT (fun _ => ?_) ?_ | refine wkS ?_) | ((with_reducible refine wkC ?_ ?_); exact CEq.refl _) | ((with_reducible fail_if_success first | constructor | show False); conv => whnf)
  refine LoopVC.inv (fun i : Nat => i ≤ 2) (fun i => stL [(0, .c (.sl 1 2 (twoC (.sl 4 n0 f0) (.sl 4 n1 f1)))), (3, .c (.int .i64 (twoS n0 n1 i))), (9, .c (.sl 1 2 (twoC (.sl 4 n0 f0) (.sl 4 n1 f1)))), (10, .c (.int .i64 2)), (11, .c (.int .i64 i))] [])
    (fun i => 2 - i) 0 (by omega) ?_ ?_
  · (refine Le.of ?_ ?_ <;> repeat' first | exact trivial | exact CEq.refl _ | exact rfl | exact cI (by push_cast; first | rfl | omega) | exact SubE.dat fun _ _ _ _ => CEq.refl _ | refine SubE.varN ?_ | refine Exists.intro _ (And.intro rfl ?_) | refine And.intro ?_ ?_)
  · have e0 : twoS n0 n1 0 = 0 := rfl
    have e1 : twoS n0 n1 1 = n0 := rfl
    have e2 : twoS n0 n1 2 = n0 + n1 := rfl
    have g0 : twoN n0 n1 0 = 0 := rfl
    have g1 : twoN n0 n1 1 = 0 + n0 := rfl
    have g2 : twoN n0 n1 2 = 0 + n0 + n1 := rfl
    rintro Q hQ i hi
    rcases (show i = 0 ∨ i = 1 ∨ i = 2 by omega) with rfl | rfl | rfl
    · repeat' first | (with_reducible first | refine wkI ?_ | exact ⟨⟩ | refine wkB (fun _ => ?_) fun _ => ?_ | refine wkT (fun _ => ?_) ?_ | refine wkS ?_) | ((with_reducible refine wkC ?_ ?_); exact CEq.refl _) | ((with_reducible fail_if_success first | constructor | show False); conv => whnf)
      · rename_i h1 h2
        have h2 := of_decide_eq_true h2
        omega
      · refine LoopEnd.mk ⟨1, by omega, by omega, ?_⟩
        (refine Le.of ?_ ?_ <;> repeat' first | exact trivial | exact CEq.refl _ | exact rfl | exact cI (by push_cast; first | rfl | omega) | exact SubE.dat fun _ _ _ _ => CEq.refl _ | refine SubE.varN ?_ | refine Exists.intro _ (And.intro rfl ?_) | refine And.intro ?_ ?_)
        all_goals exact cI (by omega)
      · rename_i h1
        exact absurd h1 (by decide)
    · repeat' first | (with_reducible first | refine wkI ?_ | exact ⟨⟩ | refine wkB (fun _ => ?_) fun _ => ?_ | refine wkT (fun _ => ?_) ?_ | refine wkS ?_) | ((with_reducible refine wkC ?_ ?_); exact CEq.refl _) | ((with_reducible fail_if_success first | constructor | show False); conv => whnf)
      · rename_i h1 h2
        have h2 := of_decide_eq_true h2
        omega
      · refine LoopEnd.mk ⟨2, by omega, by omega, ?_⟩
        (refine Le.of ?_ ?_ <;> repeat' first | exact trivial | exact CEq.refl _ | exact rfl | exact cI (by push_cast; first | rfl | omega) | exact SubE.dat fun _ _ _ _ => CEq.refl _ | refine SubE.varN ?_ | refine Exists.intro _ (And.intro rfl ?_) | refine And.intro ?_ ?_)
        all_goals exact cI (by omega)
      · rename_i h1
        exact absurd h1 (by decide)
    · repeat' first | (with_reducible first | refine wkI ?_ | exact ⟨⟩ | refine wkB (fun _ => ?_) fun _ => ?_ | refine wkT (fun _ => ?_) ?_ | refine wkS ?_) | ((with_reducible refine wkC ?_ ?_); exact CEq.refl _) | ((with_reducible fail_if_success first | constructor | show False); conv => whnf)
      · rename_i h1 h2
        exact absurd h1 (by decide)
      · rename_i h1 h2
        exact absurd h1 (by decide)
      refine Out.mk (hQ _ _ ?_)
      repeat' first | (with_reducible first | refine wkI ?_ | exact ⟨⟩ | refine wkB (fun _ => ?_) fun _ => ?_ | refine wkT (fun _ => ?_) ?_ | refine wkS ?_) | ((with_reducible refine wkC ?_ ?_); exact CEq.refl _) | ((with_reducible fail_if_success first | constructor | show False); conv => whnf)
      refine CallVC.mk' (fun _ => sl_Grow_device_Request_ok hm hg (n0 + n1) h) (fun _ => .cons .nil (.cons (.one (eI (by show ((n0 : Int) + n1) = ((n0 + n1 : Nat) : Int); push_cast; rfl))) .nil)) ?_
      repeat' first | (with_reducible first | refine wkI ?_ | exact ⟨⟩ | refine wkB (fun _ => ?_) fun _ => ?_ | refine wkT (fun _ => ?_) ?_ | refine wkS ?_) | ((with_reducible refine wkC ?_ ?_); exact CEq.refl _) | ((with_reducible fail_if_success first | constructor | show False); conv => whnf)
      refine LoopVC.inv (fun i : Nat => i ≤ 2) (fun i => stL [(6, .os 1024 0 4 0 (twoN n0 n1 i)), (25, .c (.sl 1 2 (twoC (.sl 4 n0 f0) (.sl 4 n1 f1)))), (26, .c (.int .i64 2)), (27, .c (.int .i64 i))] [(1024, ⟨4, twoN n0 n1 i, .dat (twoF n0 f0 f1 i), false, true⟩)])
        (fun i => 2 - i) 0 (by omega) ?_ ?_
      · (refine Le.of ?_ ?_ <;> repeat' first | exact trivial | exact CEq.refl _ | exact rfl | exact cI (by push_cast; first | rfl | omega) | exact SubE.dat fun _ _ _ _ => CEq.refl _ | refine SubE.varN ?_ | refine Exists.intro _ (And.intro rfl ?_) | refine And.intro ?_ ?_)
      · rintro Q2 hQ2 i hi
        rcases (show i = 0 ∨ i = 1 ∨ i = 2 by omega) with rfl | rfl | rfl
        · repeat' first | (with_reducible first | refine wkI ?_ | exact ⟨⟩ | refine wkB (fun _ => ?_) fun _ => ?_ | refine wkT (fun _ => ?_) ?_ | refine wkS ?_) | ((with_reducible refine wkC ?_ ?_); exact CEq.refl _) | ((with_reducible fail_if_success first | constructor | show False); conv => whnf)
          · refine LoopEnd.mk ⟨1, by omega, by omega, ?_⟩
            (refine Le.of ?_ ?_ <;> repeat' first | exact trivial | exact CEq.refl _ | exact rfl | exact cI (by push_cast; first | rfl | omega) | exact SubE.dat fun _ _ _ _ => CEq.refl _ | refine SubE.varN ?_ | refine Exists.intro _ (And.intro rfl ?_) | refine And.intro ?_ ?_)
          · rename_i h1
            exact absurd h1 (by decide)
        · repeat' first | (with_reducible first | refine wkI ?_ | exact ⟨⟩ | refine wkB (fun _ => ?_) fun _ => ?_ | refine wkT (fun _ => ?_) ?_ | refine wkS ?_) | ((with_reducible refine wkC ?_ ?_); exact CEq.refl _) | ((with_reducible fail_if_success first | constructor | show False); conv => whnf)
          · refine LoopEnd.mk ⟨2, by omega, by omega, ?_⟩
            (refine Le.of ?_ ?_ <;> repeat' first | exact trivial | exact CEq.refl _ | exact rfl | exact cI (by push_cast; first | rfl | omega) | exact SubE.dat fun _ _ _ _ => CEq.refl _ | refine SubE.varN ?_ | refine Exists.intro _ (And.intro rfl ?_) | refine And.intro ?_ ?_)
            exact SubE.dat fun r hr j hj => by
              show CEq (appC f0 (0 + n0) f1 r j) (appC f0 n0 f1 r j)
              rw [Nat.zero_add]
              exact CEq.refl _
          · rename_i h1
            exact absurd h1 (by decide)
        · repeat' first | (with_reducible first | refine wkI ?_ | exact ⟨⟩ | refine wkB (fun _ => ?_) fun _ => ?_ | refine wkT (fun _ => ?_) ?_ | refine wkS ?_) | ((with_reducible refine wkC ?_ ?_); exact CEq.refl _) | ((with_reducible fail_if_success first | constructor | show False); conv => whnf)
          · rename_i h1
            exact absurd h1 (by decide)
          refine Out.mk (hQ2 _ _ ?_)
          repeat' first | (with_reducible first | refine wkI ?_ | exact ⟨⟩ | refine wkB (fun _ => ?_) fun _ => ?_ | refine wkT (fun _ => ?_) ?_ | refine wkS ?_) | ((with_reducible refine wkC ?_ ?_); exact CEq.refl _) | ((with_reducible fail_if_success first | constructor | show False); conv => whnf)
          refine Need.mk (fun i _ j _ => CEq.refl _) ?_
          repeat' first | (with_reducible first | refine wkI ?_ | exact ⟨⟩ | refine wkB (fun _ => ?_) fun _ => ?_ | refine wkT (fun _ => ?_) ?_ | refine wkS ?_) | ((with_reducible refine wkC ?_ ?_); exact CEq.refl _) | ((with_reducible fail_if_success first | constructor | show False); conv => whnf)
section
variable {P : Program} {F : Nat → Nat}
structure KDev (P : Program) (F : Nat → Nat) : Prop where
  k : KDisk P F
  rd : ∀ (d : Dsk) (at_ : Int), Small d → FnOk P (F 37) [.many 2 (dskE d), .one (.int .i64 at_)] [.one (.im (.str (d.rd at_).1)), .one (.im (.int .i64 (d.rd at_).2))]
  home : device_home_k P F
  request : device_request_k P F
  right : device_Right_k P F
  put : device_put_k P F
  submit : device_Submit_k P F
  finish : device_Finish_k P F
  crash : device_Crash_k P F
  clone : sl_Clone_device_Request_k P F
  concat : sl_Concat_device_Request_k P F
  grow : sl_Grow_device_Request_k P F
theorem right_ok (K : KDev P F) (d : Dv) (S : SmallV d) : FnOk P (F 145) [.many 4 (dvE d)] [.one (.im (.bool (decide (rightV d))))] := by
  refine fnOk K.k.m K.right ?_
  have hs := S.k.s
  have hf := S.f
  repeat' first | (with_reducible first | refine wkI ?_ | exact ⟨⟩ | refine wkB (fun _ => ?_) fun _ => ?_ | refine wkT (fun _ => ?_) ?_ | refine wkL ?_) | ((with_reducible refine wkC ?_ ?_); exact CEq.refl _) | ((with_reducible fail_if_success first | constructor | show False); conv => whnf)
  refine CallVC.mk' (fun _ => S03.right_ok K.k.m K.k.right K.k.fits d.disk S.k.s S.k.c S.k.ls S.k.lc) (fun _ => .cons ((mC2 (by rfl))) .nil) ?_
  repeat' first | (with_reducible first | refine wkI ?_ | exact ⟨⟩ | refine wkB (fun _ => ?_) fun _ => ?_ | refine wkT (fun _ => ?_) ?_ | refine wkL ?_) | ((with_reducible refine wkC ?_ ?_); exact CEq.refl _) | ((with_reducible fail_if_success first | constructor | show False); conv => whnf)
  · rename_i h
    rw [decide_eq_false (fun x : rightV d => by
      obtain ⟨⟨a, b⟩, -⟩ := x
      rw [decide_eq_true a] at h
      simp only [Bool.not_true, Bool.false_or, decide_eq_true_eq] at h; omega)]
    repeat' first | (with_reducible first | refine wkI ?_ | exact ⟨⟩ | refine wkB (fun _ => ?_) fun _ => ?_ | refine wkT (fun _ => ?_) ?_ | refine wkF ?_) | ((with_reducible refine wkC ?_ ?_); exact CEq.refl _) | ((with_reducible fail_if_success first | constructor | show False); conv => whnf)
  · rename_i h0 h
    rw [decide_eq_false (fun x : rightV d => by
      obtain ⟨-, ⟨a, b, c⟩, -⟩ := x
      simp only [Bool.or_eq_true, decide_eq_true_eq] at h; omega)]
    repeat' first | (with_reducible first | refine wkI ?_ | exact ⟨⟩ | refine wkB (fun _ => ?_) fun _ => ?_ | refine wkT (fun _ => ?_) ?_ | refine wkF ?_) | ((with_reducible refine wkC ?_ ?_); exact CEq.refl _) | ((with_reducible fail_if_success first | constructor | show False); conv => whnf)
  rename_i h0 h
  simp only [Bool.or_eq_false_iff, Bool.not_eq_false', decide_eq_true_eq, decide_eq_false_iff_not] at h0 h
  refine LoopVC.inv (fun i : Nat => i ≤ d.flight.length ∧ ∀ k, k < i → okAt d.next d.flight k) (fun i => stL [(1, .va 1 0 0), (3, .c (.int .i64 (ahead d.flight i))), (32, .c (slL 4 rqE d.flight)), (33, .c (.int .i64 d.flight.length)), (34, .c (.int .i64 i))]
    [(1, vE [.c (slL 1 strE d.disk.secs), .c (slL 2 wrE d.disk.cache), .c (.int .i64 d.next), .c (slL 4 rqE d.flight)])]) (fun i => d.flight.length - i) 0 ⟨Nat.zero_le _, fun k hk => by omega⟩ ?_ ?_
  · (refine Le.of ?_ ?_ <;> repeat' first | exact trivial | exact CEq.refl _ | exact rfl | exact cI (by push_cast; first | rfl | omega) | exact SubE.dat fun _ _ _ _ => CEq.refl _ | refine SubE.varN ?_ | refine Exists.intro _ (And.intro rfl ?_) | refine And.intro ?_ ?_)
  rintro Q hQ i ⟨hi, hok⟩
  repeat' first | (with_reducible first | refine wkI ?_ | exact ⟨⟩ | refine wkB (fun _ => ?_) fun _ => ?_ | refine wkT (fun _ => ?_) ?_ | refine wkL ?_) | ((with_reducible refine wkC ?_ ?_); exact CEq.refl _) | ((with_reducible fail_if_success first | constructor | show False); conv => whnf)
  · rename_i h1
    have h1 : (i : Int) < d.flight.length := of_decide_eq_true h1
    have hr := S.lf _ (getD_mem (show i < d.flight.length by omega))
    repeat' first | (with_reducible first | refine wkI ?_ | exact ⟨⟩ | refine wkB (fun _ => ?_) fun _ => ?_ | refine wkT (fun _ => ?_) ?_ | refine wkL ?_) | ((with_reducible refine wkC ?_ ?_); exact CEq.refl _) | ((with_reducible fail_if_success first | constructor | show False); conv => whnf)
    · rename_i h2
      rw [Int.toNat_natCast] at h2
      simp only [Bool.or_eq_true, decide_eq_true_eq] at h2
      refine Out.mk (hQ _ _ ?_)
      rw [decide_eq_false (fun x : rightV d => by
        have := (x.2.2 i (by omega)); have := this.1; have := (x.2.2 i (by omega)).2.1
        omega)]
      repeat' first | (with_reducible first | refine wkI ?_ | exact ⟨⟩ | refine wkB (fun _ => ?_) fun _ => ?_ | refine wkT (fun _ => ?_) ?_ | refine wkF ?_) | ((with_reducible refine wkC ?_ ?_); exact CEq.refl _) | ((with_reducible fail_if_success first | constructor | show False); conv => whnf)
    · rename_i h2
      rw [Int.toNat_natCast] at h2
      simp only [Bool.or_eq_false_iff, decide_eq_false_iff_not] at h2
      rw [Int.toNat_natCast]
      refine CallVC.mk' (fun _ => request_ok K.k.m K.request _ _ _ (by omega)) (fun _ => .cons (.one (CEq.refl _)) (.cons (.one (CEq.refl _)) (.cons (.one (CEq.refl _)) .nil))) ?_
      repeat' first | (with_reducible first | refine wkI ?_ | exact ⟨⟩ | refine wkB (fun _ => ?_) fun _ => ?_ | refine wkT (fun _ => ?_) ?_ | refine wkL ?_) | ((with_reducible refine wkC ?_ ?_); exact CEq.refl _) | ((with_reducible fail_if_success first | constructor | show False); conv => whnf)
      · rename_i h3
        simp only [Bool.not_eq_true', decide_eq_false_iff_not] at h3
        refine Out.mk (hQ _ _ ?_)
        rw [decide_eq_false (fun x : rightV d => h3 (x.2.2 i (by omega)).2.2)]
        repeat' first | (with_reducible first | refine wkI ?_ | exact ⟨⟩ | refine wkB (fun _ => ?_) fun _ => ?_ | refine wkT (fun _ => ?_) ?_ | refine wkF ?_) | ((with_reducible refine wkC ?_ ?_); exact CEq.refl _) | ((with_reducible fail_if_success first | constructor | show False); conv => whnf)
      · rename_i h3
        simp only [Bool.not_eq_false', decide_eq_true_eq] at h3
        refine LoopEnd.mk ⟨i + 1, ⟨by omega, fun k hk => ?_⟩, by omega, by (refine Le.of ?_ ?_ <;> repeat' first | exact trivial | exact CEq.refl _ | exact rfl | exact cI (by push_cast; first | rfl | omega) | exact SubE.dat fun _ _ _ _ => CEq.refl _ | refine SubE.varN ?_ | refine Exists.intro _ (And.intro rfl ?_) | refine And.intro ?_ ?_)⟩
        rcases Nat.lt_or_ge k i with h9 | h9
        · exact hok k h9
        · obtain rfl : k = i := by omega
          exact ⟨by omega, by omega, h3⟩
  · rename_i h1
    have h1 : ¬ (i : Int) < d.flight.length := of_decide_eq_false h1
    refine Out.mk (hQ _ _ ?_)
    rw [decide_eq_true (show rightV d from ⟨⟨h0.1, by omega⟩, ⟨by omega, by omega, by omega⟩, fun k hk => hok k (by omega)⟩)]
    repeat' first | (with_reducible first | refine wkI ?_ | exact ⟨⟩ | refine wkB (fun _ => ?_) fun _ => ?_ | refine wkT (fun _ => ?_) ?_ | refine wkF ?_) | ((with_reducible refine wkC ?_ ?_); exact CEq.refl _) | ((with_reducible fail_if_success first | constructor | show False); conv => whnf)
end
end Lk.S04
namespace Lk.S04
open Go Lk Lk.C Lk.S03
section
variable {P : Program} {F : Nat → Nat}
def dk (d : Dsk) (r : Rq) : Nat → Dsk | 0 => d | 1 => d.put (w0 r) | _ => (d.put (w0 r)).put (w1 r)
theorem half0 {s : List UInt8} : (s.take ((0 + 1 : Int) * 16).toNat).drop ((0 : Int) * 16).toNat = s.take 16 := by simp
theorem half1 {s : List UInt8} (h : s.length = 32) : (s.take ((1 + 1 : Int) * 16).toNat).drop ((1 : Int) * 16).toNat = s.drop 16 := by
  show (s.take 32).drop 16 = _
  rw [List.take_of_length_le (by omega)]
theorem put_ok (K : KDev P F) (d : Dsk) (r : Rq) (S : Small d) (hl : r.data.length = 32) (hp1 : 1 ≤ r.page) (hp2 : r.page ≤ 16) :
    FnOk P (F 148) [.many 2 (dskE d), .many 4 (rqE r)] [.many 2 (fun j => .im (dskE (putR d r).1 j)), .one (.im (.int .i64 (putR d r).2))] := by
  refine fnOk K.k.m K.put ?_
  repeat' first | (with_reducible first | refine wkI ?_ | exact ⟨⟩ | refine wkB (fun _ => ?_) fun _ => ?_ | refine wkT (fun _ => ?_) ?_ | refine wkL ?_) | ((with_reducible refine wkC ?_ ?_); exact CEq.refl _) | ((with_reducible fail_if_success first | constructor | show False); conv => whnf)
  have S1 : Small (d.put (w0 r)) := S.put
  refine LoopVC.inv (fun i : Nat => i ≤ 2 ∧ (1 ≤ i → d.putE (w0 r) = 0) ∧ (2 ≤ i → (d.put (w0 r)).putE (w1 r) = 0)) (fun i => stL [(2, .va 2 0 0), (3, .va 3 0 0), (4, .va 4 0 0), (10, .c (.int .i64 i))]
    [(2, vE [.c (slL 1 strE (dk d r i).secs), .c (slL 2 wrE (dk d r i).cache)]), (3, vE [.c (.int .i64 r.ticket), .c (.int .i64 r.kind), .c (.int .i64 r.page), .c (.str r.data)]), (4, vE [.nil 1, .nil 2])]) (fun i => 2 - i) 0 ⟨by omega, fun h => by omega, fun h => by omega⟩ ?_ ?_
  · (refine Le.of ?_ ?_ <;> repeat' first | exact trivial | exact CEq.refl _ | exact rfl | exact cI (by push_cast; first | rfl | omega) | exact SubE.dat fun _ _ _ _ => CEq.refl _ | refine SubE.varN ?_ | refine Exists.intro _ (And.intro rfl ?_) | refine And.intro ?_ ?_)
  rintro Q hQ i ⟨hi, e0, e1⟩
  rcases (show i = 0 ∨ i = 1 ∨ i = 2 by omega) with rfl | rfl | rfl
  · repeat' first | (with_reducible first | refine wkI ?_ | exact ⟨⟩ | refine wkB (fun _ => ?_) fun _ => ?_ | refine wkT (fun _ => ?_) ?_ | refine wkL ?_) | ((with_reducible refine wkC ?_ ?_); exact CEq.refl _) | ((with_reducible fail_if_success first | constructor | show False); conv => whnf)
    · refine CallVC.mk' (fun _ => home_ok K.k.m K.home r.page (by omega) (by omega)) (fun _ => .cons (.one (CEq.refl _)) .nil) ?_
      unfold hm
      repeat' first | (with_reducible first | refine wkI ?_ | exact ⟨⟩ | refine wkB (fun _ => ?_) fun _ => ?_ | refine wkT (fun _ => ?_) ?_ | refine wkL ?_) | ((with_reducible refine wkC ?_ ?_); exact CEq.refl _) | ((with_reducible fail_if_success first | constructor | show False); conv => whnf)
      refine CallVC.mk' (fun _ => S03.put_ok K.k.m K.k.put K.k.right K.k.fits K.k.cloneW (d) (w0 r) (S).s (S).c (S).ls (S).lc (by show (List.take 16 r.data).length ≤ _; simp; omega)) (fun _ => .cons ((mC2 (by rfl))) (.cons (.many fun j hj => by
        rcases (show j = 0 ∨ j = 1 by omega) with rfl | rfl
        · exact eI (by show 2 * r.page + 1 + _ = _; (try unfold w0); (try unfold w1); unfold hm; first | rfl | (simp; done) | omega)
        · exact eS (half0)) .nil)) ?_
      repeat' first | (with_reducible first | refine wkI ?_ | exact ⟨⟩ | refine wkB (fun _ => ?_) fun _ => ?_ | refine wkT (fun _ => ?_) ?_ | refine wkL ?_) | ((with_reducible refine wkC ?_ ?_); exact CEq.refl _) | ((with_reducible fail_if_success first | constructor | show False); conv => whnf)
      · rename_i h1 h2
        simp only [Bool.not_eq_true', decide_eq_false_iff_not] at h2
        refine Out.mk (hQ _ _ ?_)
        rw [show putR d r = (d, 7) by unfold putR; rw [if_pos h2]]
        repeat' first | (with_reducible first | refine wkI ?_ | exact ⟨⟩ | refine wkB (fun _ => ?_) fun _ => ?_ | refine wkT (fun _ => ?_) ?_ | refine wkL ?_) | ((with_reducible refine wkC ?_ ?_); exact CEq.refl _) | ((with_reducible fail_if_success first | constructor | show False); conv => whnf)
      · rename_i h1 h2
        simp only [Bool.not_eq_false', decide_eq_true_eq] at h2
        refine LoopEnd.mk ⟨1, ⟨by omega, fun _ => h2, fun h => by omega⟩, by omega, ?_⟩
        (refine Le.of ?_ ?_ <;> repeat' first | exact trivial | exact CEq.refl _ | exact rfl | exact cI (by push_cast; first | rfl | omega) | exact SubE.dat fun _ _ _ _ => CEq.refl _ | refine SubE.varN ?_ | refine Exists.intro _ (And.intro rfl ?_) | refine And.intro ?_ ?_)
    · rename_i h1
      exact absurd h1 (by decide)
  · repeat' first | (with_reducible first | refine wkI ?_ | exact ⟨⟩ | refine wkB (fun _ => ?_) fun _ => ?_ | refine wkT (fun _ => ?_) ?_ | refine wkL ?_) | ((with_reducible refine wkC ?_ ?_); exact CEq.refl _) | ((with_reducible fail_if_success first | constructor | show False); conv => whnf)
    · refine CallVC.mk' (fun _ => home_ok K.k.m K.home r.page (by omega) (by omega)) (fun _ => .cons (.one (CEq.refl _)) .nil) ?_
      unfold hm
      repeat' first | (with_reducible first | refine wkI ?_ | exact ⟨⟩ | refine wkB (fun _ => ?_) fun _ => ?_ | refine wkT (fun _ => ?_) ?_ | refine wkL ?_) | ((with_reducible refine wkC ?_ ?_); exact CEq.refl _) | ((with_reducible fail_if_success first | constructor | show False); conv => whnf)
      refine CallVC.mk' (fun _ => S03.put_ok K.k.m K.k.put K.k.right K.k.fits K.k.cloneW (d.put (w0 r)) (w1 r) (S1).s (S1).c (S1).ls (S1).lc (by show (List.drop 16 r.data).length ≤ _; simp; omega)) (fun _ => .cons ((mC2 (by rfl))) (.cons (.many fun j hj => by
        rcases (show j = 0 ∨ j = 1 by omega) with rfl | rfl
        · exact eI (by show 2 * r.page + 1 + _ = _; (try unfold w0); (try unfold w1); unfold hm; first | rfl | (simp; done) | omega)
        · exact eS (half1 hl)) .nil)) ?_
      repeat' first | (with_reducible first | refine wkI ?_ | exact ⟨⟩ | refine wkB (fun _ => ?_) fun _ => ?_ | refine wkT (fun _ => ?_) ?_ | refine wkL ?_) | ((with_reducible refine wkC ?_ ?_); exact CEq.refl _) | ((with_reducible fail_if_success first | constructor | show False); conv => whnf)
      · rename_i h1 h2
        simp only [Bool.not_eq_true', decide_eq_false_iff_not] at h2
        refine Out.mk (hQ _ _ ?_)
        rw [show putR d r = (d.put (w0 r), 7) by unfold putR; rw [if_neg (by rw [e0 (by omega)]; simp), if_pos h2]]
        repeat' first | (with_reducible first | refine wkI ?_ | exact ⟨⟩ | refine wkB (fun _ => ?_) fun _ => ?_ | refine wkT (fun _ => ?_) ?_ | refine wkL ?_) | ((with_reducible refine wkC ?_ ?_); exact CEq.refl _) | ((with_reducible fail_if_success first | constructor | show False); conv => whnf)
      · rename_i h1 h2
        simp only [Bool.not_eq_false', decide_eq_true_eq] at h2
        refine LoopEnd.mk ⟨2, ⟨by omega, fun _ => e0 (by omega), fun _ => h2⟩, by omega, ?_⟩
        (refine Le.of ?_ ?_ <;> repeat' first | exact trivial | exact CEq.refl _ | exact rfl | exact cI (by push_cast; first | rfl | omega) | exact SubE.dat fun _ _ _ _ => CEq.refl _ | refine SubE.varN ?_ | refine Exists.intro _ (And.intro rfl ?_) | refine And.intro ?_ ?_)
    · rename_i h1
      exact absurd h1 (by decide)
  · repeat' first | (with_reducible first | refine wkI ?_ | exact ⟨⟩ | refine wkB (fun _ => ?_) fun _ => ?_ | refine wkT (fun _ => ?_) ?_ | refine wkL ?_) | ((with_reducible refine wkC ?_ ?_); exact CEq.refl _) | ((with_reducible fail_if_success first | constructor | show False); conv => whnf)
    · rename_i h1
      exact absurd h1 (by decide)
    · refine Out.mk (hQ _ _ ?_)
      rw [show putR d r = ((d.put (w0 r)).put (w1 r), 0) by unfold putR; rw [if_neg (by rw [e0 (by omega)]; simp), if_neg (by rw [e1 (by omega)]; simp)]]
      repeat' first | (with_reducible first | refine wkI ?_ | exact ⟨⟩ | refine wkB (fun _ => ?_) fun _ => ?_ | refine wkT (fun _ => ?_) ?_ | refine wkL ?_) | ((with_reducible refine wkC ?_ ?_); exact CEq.refl _) | ((with_reducible fail_if_success first | constructor | show False); conv => whnf)
theorem submit_ok (K : KDev P F) (d : Dv) (k p : Int) (s : List UInt8) (S : SmallV d) (hs : s.length ≤ 9223372036854775807) :
    FnOk P (F 168) [.many 4 (dvE d), .one (.int .i64 k), .one (.int .i64 p), .one (.str s)] [.many 4 (fun j => .im (dvE (subm d k p s).1 j)), .one (.im (.int .i64 (subm d k p s).2.1)), .one (.im (.int .i64 (subm d k p s).2.2))] := by
  refine fnOk K.k.m K.submit ?_
  have hf := S.f
  repeat' first | (with_reducible first | refine wkI ?_ | exact ⟨⟩ | refine wkB (fun _ => ?_) fun _ => ?_ | refine wkT (fun _ => ?_) ?_ | refine wkL ?_) | ((with_reducible refine wkC ?_ ?_); exact CEq.refl _) | ((with_reducible fail_if_success first | constructor | show False); conv => whnf)
  refine CallVC.mk' (fun _ => right_ok K d S) (fun _ => .cons ((mC4 (by rfl))) .nil) ?_
  repeat' first | (with_reducible first | refine wkI ?_ | exact ⟨⟩ | refine wkB (fun _ => ?_) fun _ => ?_ | refine wkT (fun _ => ?_) ?_ | refine wkL ?_) | ((with_reducible refine wkC ?_ ?_); exact CEq.refl _) | ((with_reducible fail_if_success first | constructor | show False); conv => whnf)
  refine CallVC.mk' (fun _ => request_ok K.k.m K.request k p s hs) (fun _ => .cons (.one (CEq.refl _)) (.cons (.one (CEq.refl _)) (.cons (.one (CEq.refl _)) .nil))) ?_
  repeat' first | (with_reducible first | refine wkI ?_ | exact ⟨⟩ | refine wkB (fun _ => ?_) fun _ => ?_ | refine wkT (fun _ => ?_) ?_ | refine wkL ?_) | ((with_reducible refine wkC ?_ ?_); exact CEq.refl _) | ((with_reducible fail_if_success first | constructor | show False); conv => whnf)
  · rename_i h
    have h : subNo d k p s := by
      simp only [Bool.or_eq_true, Bool.not_eq_true', decide_eq_false_iff_not, decide_eq_true_eq, or_assoc] at h
      exact h
    rw [show subm d k p s = (d, 0, 1) from if_pos h]
    repeat' first | (with_reducible first | refine wkI ?_ | exact ⟨⟩ | refine wkB (fun _ => ?_) fun _ => ?_ | refine wkT (fun _ => ?_) ?_ | refine wkL ?_) | ((with_reducible refine wkC ?_ ?_); exact CEq.refl _) | ((with_reducible fail_if_success first | constructor | show False); conv => whnf)
  · rename_i h0 h
    have h0 : ¬ subNo d k p s := by
      simp only [Bool.or_eq_false_iff, Bool.not_eq_false', decide_eq_false_iff_not, decide_eq_true_eq] at h0
      rintro (x | x | x)
      · exact x h0.1.1
      · exact h0.1.2 x
      · exact x h0.2
    have h := of_decide_eq_true h
    rw [show subm d k p s = (d, 0, 6) by unfold subm; rw [if_neg h0, if_pos (by omega)]]
    repeat' first | (with_reducible first | refine wkI ?_ | exact ⟨⟩ | refine wkB (fun _ => ?_) fun _ => ?_ | refine wkT (fun _ => ?_) ?_ | refine wkL ?_) | ((with_reducible refine wkC ?_ ?_); exact CEq.refl _) | ((with_reducible fail_if_success first | constructor | show False); conv => whnf)
  rename_i h0 h
  have h0 : ¬ subNo d k p s := by
    simp only [Bool.or_eq_false_iff, Bool.not_eq_false', decide_eq_false_iff_not, decide_eq_true_eq] at h0
    rintro (x | x | x)
    · exact x h0.1.1
    · exact h0.1.2 x
    · exact x h0.2
  have h := of_decide_eq_false h
  rw [show subm d k p s = (⟨d.disk, d.next + 1, d.flight ++ [⟨d.next, k, p, s⟩]⟩, d.next, 0) by unfold subm; rw [if_neg h0, if_neg (by omega)]]
  have hv : rightV d := Classical.byContradiction fun x => h0 (.inl x)
  have hn := hv.2.1
  refine CallVC.mk' (fun _ => sl_Clone_device_Request_ok K.k.m K.clone d.flight.length (fun i j => rqE (d.flight.getD i default) j) hf) (fun _ => .cons (.one (CEq.refl _)) .nil) ?_
  repeat' first | (with_reducible first | refine wkI ?_ | exact ⟨⟩ | refine wkB (fun _ => ?_) fun _ => ?_ | refine wkT (fun _ => ?_) ?_ | refine wkL ?_) | ((with_reducible refine wkC ?_ ?_); exact CEq.refl _) | ((with_reducible fail_if_success first | constructor | show False); conv => whnf)
  refine Need.mk (((IsL.app (size := 4) (enc := rqE) (l := d.flight) IsL.refl rfl (IsL.one (x := ⟨d.next, k, p, s⟩) fun j hj => by
    rcases (show j = 0 ∨ j = 1 ∨ j = 2 ∨ j = 3 by omega) with rfl | rfl | rfl | rfl <;> exact CEq.refl _)).off).ceq (by simp)) ?_
  repeat' first | (with_reducible first | refine wkI ?_ | exact ⟨⟩ | refine wkB (fun _ => ?_) fun _ => ?_ | refine wkT (fun _ => ?_) ?_ | refine wkL ?_) | ((with_reducible refine wkC ?_ ?_); exact CEq.refl _) | ((with_reducible fail_if_success first | constructor | show False); conv => whnf)
theorem crashV_ok (K : KDev P F) (d : Dv) (keep : List Int) (S : SmallV d) (hk : keep.length ≤ 1000000) :
    FnOk P (F 174) [.many 4 (dvE d), .one (slL 1 intE keep)] [.many 4 (fun j => .im (dvE (crashV d keep) j))] := by
  refine fnOk K.k.m K.crash ?_
  repeat' first | (with_reducible first | refine wkI ?_ | exact ⟨⟩ | refine wkB (fun _ => ?_) fun _ => ?_ | refine wkT (fun _ => ?_) ?_ | refine wkL ?_) | ((with_reducible refine wkC ?_ ?_); exact CEq.refl _) | ((with_reducible fail_if_success first | constructor | show False); conv => whnf)
  refine CallVC.mk' (fun _ => right_ok K d S) (fun _ => .cons ((mC4 (by rfl))) .nil) ?_
  repeat' first | (with_reducible first | refine wkI ?_ | exact ⟨⟩ | refine wkB (fun _ => ?_) fun _ => ?_ | refine wkT (fun _ => ?_) ?_ | refine wkL ?_) | ((with_reducible refine wkC ?_ ?_); exact CEq.refl _) | ((with_reducible fail_if_success first | constructor | show False); conv => whnf)
  · rename_i h
    simp only [Bool.not_eq_true', decide_eq_false_iff_not] at h
    rw [show crashV d keep = d from if_neg h]
    repeat' first | (with_reducible first | refine wkI ?_ | exact ⟨⟩ | refine wkB (fun _ => ?_) fun _ => ?_ | refine wkT (fun _ => ?_) ?_ | refine wkL ?_) | ((with_reducible refine wkC ?_ ?_); exact CEq.refl _) | ((with_reducible fail_if_success first | constructor | show False); conv => whnf)
  · rename_i h
    simp only [Bool.not_eq_false', decide_eq_true_eq] at h
    rw [show crashV d keep = ⟨d.disk.crash keep, d.next, []⟩ from if_pos h]
    refine CallVC.mk' (fun _ => crash_ok K.k d.disk keep S.k hk) (fun _ => .cons ((mC2 (by rfl))) (.cons (.one (CEq.refl _)) .nil)) ?_
    repeat' first | (with_reducible first | refine wkI ?_ | exact ⟨⟩ | refine wkB (fun _ => ?_) fun _ => ?_ | refine wkT (fun _ => ?_) ?_ | refine wkL ?_) | ((with_reducible refine wkC ?_ ?_); exact CEq.refl _) | ((with_reducible fail_if_success first | constructor | show False); conv => whnf)
    refine Need.mk ceq_nil ?_
    repeat' first | (with_reducible first | refine wkI ?_ | exact ⟨⟩ | refine wkB (fun _ => ?_) fun _ => ?_ | refine wkT (fun _ => ?_) ?_ | refine wkL ?_) | ((with_reducible refine wkC ?_ ?_); exact CEq.refl _) | ((with_reducible fail_if_success first | constructor | show False); conv => whnf)
end
end Lk.S04
namespace Lk.S04
open Go Lk Lk.C Lk.S03
section
variable {P : Program} {F : Nat → Nat}
theorem Small_len {d : Dsk} (S : Small d) (at_ : Int) : (d.rd at_).1.length ≤ 1000000 := by
  unfold Dsk.rd
  split
  · rename_i h
    show (rdL d.cache _ (d.secs.getD _ [])).length ≤ _
    rcases rdL_mem (l := d.cache) (at_ := (at_.toNat : Int)) (s := d.secs.getD at_.toNat []) with e | ⟨w, hw, -, e⟩
    · rw [e]
      have := S.ls (d.secs.getD at_.toNat default) (getD_mem (by omega))
      exact this
    · rw [e]; exact S.lc w hw
  · simp
theorem finish_ok (K : KDev P F) (d : Dv) (at_ : Int) (fault : Bool) (S : SmallV d) :
    FnOk P (F 149) [.many 4 (dvE d), .one (.int .i64 at_), .one (.bool fault)] [.many 4 (fun j => .im (dvE (finD d at_ fault).1 j)), .many 4 (fun j => .im (rqE (finD d at_ fault).2.1 j)), .one (.im (.int .i64 (finD d at_ fault).2.2))] := by
  refine fnOk K.k.m K.finish ?_
  have hf := S.f
  repeat' first | (with_reducible first | refine wkI ?_ | exact ⟨⟩ | refine wkB (fun _ => ?_) fun _ => ?_ | refine wkT (fun _ => ?_) ?_ | refine wkL ?_) | ((with_reducible refine wkC ?_ ?_); exact CEq.refl _) | ((with_reducible fail_if_success first | constructor | show False); conv => whnf)
  refine CallVC.mk' (fun _ => right_ok K d S) (fun _ => .cons ((mC4 (by rfl))) .nil) ?_
  repeat' first | (with_reducible first | refine wkI ?_ | exact ⟨⟩ | refine wkB (fun _ => ?_) fun _ => ?_ | refine wkT (fun _ => ?_) ?_ | refine wkL ?_) | ((with_reducible refine wkC ?_ ?_); exact CEq.refl _) | ((with_reducible fail_if_success first | constructor | show False); conv => whnf)
  · rename_i h
    have h : finNo d at_ := by
      simp only [Bool.or_eq_true, Bool.not_eq_true', decide_eq_false_iff_not, decide_eq_true_eq, or_assoc] at h
      exact h
    rw [show finD d at_ fault = (d, ⟨0, 0, 0, []⟩, 1) from if_pos h]
    repeat' first | (with_reducible first | refine wkI ?_ | exact ⟨⟩ | refine wkB (fun _ => ?_) fun _ => ?_ | refine wkT (fun _ => ?_) ?_ | refine wkL ?_) | ((with_reducible refine wkC ?_ ?_); exact CEq.refl _) | ((with_reducible fail_if_success first | constructor | show False); conv => whnf)
  rename_i h
  have h : ¬ finNo d at_ := by
    simp only [Bool.or_eq_false_iff, Bool.not_eq_false', decide_eq_false_iff_not, decide_eq_true_eq] at h
    rintro (x | x | x)
    · exact x h.1.1
    · exact h.1.2 x
    · exact h.2 x
  have hv : rightV d := Classical.byContradiction fun x => h (.inl x)
  have ha0 : 0 ≤ at_ := by have : ¬ at_ < 0 := fun x => h (.inr (.inl x)); omega
  obtain ⟨i, rfl⟩ : ∃ i : Nat, at_ = i := ⟨at_.toNat, by omega⟩
  have hi : i < d.flight.length := by have : ¬ (d.flight.length : Int) ≤ i := fun x => h (.inr (.inr x)); omega
  have hn := hv.2.1
  have hok := (hv.2.2 i hi).2.2
  repeat' first | (with_reducible first | refine wkI ?_ | exact ⟨⟩ | refine wkB (fun _ => ?_) fun _ => ?_ | refine wkT (fun _ => ?_) ?_ | refine wkL ?_) | ((with_reducible refine wkC ?_ ?_); exact CEq.refl _) | ((with_reducible fail_if_success first | constructor | show False); conv => whnf)
  let f0 : Nat → Nat → Cell := fun r j => rqE (d.flight.getD r default) j
  let f1 : Nat → Nat → Cell := fun r j => rqE (d.flight.getD (addN (i + 1) r) default) j
  refine CallVC.mk' (fun _ => sl_Concat_device_Request_ok K.k.m K.concat K.grow i (d.flight.length - (i + 1)) f0 f1 (by omega)) (fun _ => .cons (.one (two_ceq (CEq.refl _) (CEq.refl _))) .nil) ?_
  rw [Int.toNat_natCast]
  have hl1 : i + (d.flight.length - (i + 1)) = (without d.flight i).length := by unfold without; rw [List.length_append, List.length_take, List.length_drop, Nat.min_eq_left (by omega)]
  have hisl : IsL 4 rqE (without d.flight i) (appC f0 i f1) := by
    have e0 : IsL 4 rqE (d.flight.take i) f0 := fun r hr j hj => by
      have hr : r < i := by simp at hr; omega
      rw [getD_eq (show r < (d.flight.take i).length by simp; omega), List.getElem_take]
      show CEq (rqE (d.flight.getD r default) j) _
      rw [getD_eq (show r < d.flight.length by omega)]
      exact CEq.refl _
    have e1 : IsL 4 rqE (d.flight.drop (i + 1)) f1 := fun r hr j hj => by
      have hr : i + 1 + r < d.flight.length := by simp at hr; omega
      rw [getD_eq (show r < (d.flight.drop (i + 1)).length by simp; omega), List.getElem_drop]
      show CEq (rqE (d.flight.getD (addN (i + 1) r) default) j) _
      rw [addN_eq, getD_eq hr]
      exact CEq.refl _
    exact e0.app (by rw [List.length_take, Nat.min_eq_left (by omega)]) e1
  have hceq := hisl.off.ceq hl1
  clear_value f0 f1
  have hr := S.lf _ (getD_mem hi)
  have hfin : finD d i fault = if fault then (⟨d.disk, d.next, without d.flight i⟩, d.flight.getD i default, 8) else fin1 d (d.flight.getD i default) (without d.flight i) := by
    unfold finD; rw [if_neg h, Int.toNat_natCast]
  rw [hfin]
  clear hfin
  generalize d.flight.getD i default = r at *
  have hn0 : i + (d.flight.length - (i + 1)) ≤ 1000 := by omega
  generalize i + (d.flight.length - (i + 1)) = nw at *
  generalize without d.flight i = lw at *
  repeat' first | (with_reducible first | refine wkI ?_ | exact ⟨⟩ | refine wkB (fun _ => ?_) fun _ => ?_ | refine wkT (fun _ => ?_) ?_ | refine wkL ?_) | ((with_reducible refine wkC ?_ ?_); exact CEq.refl _) | ((with_reducible fail_if_success first | constructor | show False); conv => whnf)
  · rename_i h2
    rw [if_pos h2]
    repeat' first | (with_reducible first | refine wkI ?_ | exact ⟨⟩ | refine wkB (fun _ => ?_) fun _ => ?_ | refine wkT (fun _ => ?_) ?_ | refine wkL ?_) | ((with_reducible refine wkC ?_ ?_); exact CEq.refl _) | ((with_reducible fail_if_success first | constructor | show False); conv => whnf)
    refine Need.mk hceq ?_
    repeat' first | (with_reducible first | refine wkI ?_ | exact ⟨⟩ | refine wkB (fun _ => ?_) fun _ => ?_ | refine wkT (fun _ => ?_) ?_ | refine wkL ?_) | ((with_reducible refine wkC ?_ ?_); exact CEq.refl _) | ((with_reducible fail_if_success first | constructor | show False); conv => whnf)
  all_goals (rw [if_neg (by simp [*])])
  all_goals unfold fin1
  · rename_i h2 h3
    have h3 := of_decide_eq_true h3
    rw [if_pos h3]
    obtain ⟨p1, p2⟩ : 1 ≤ r.page ∧ r.page ≤ 16 := by rcases hok with x | x | x <;> omega
    refine CallVC.mk' (fun _ => home_ok K.k.m K.home r.page (by omega) (by omega)) (fun _ => .cons (.one (CEq.refl _)) .nil) ?_
    repeat' first | (with_reducible first | refine wkI ?_ | exact ⟨⟩ | refine wkB (fun _ => ?_) fun _ => ?_ | refine wkT (fun _ => ?_) ?_ | refine wkL ?_) | ((with_reducible refine wkC ?_ ?_); exact CEq.refl _) | ((with_reducible fail_if_success first | constructor | show False); conv => whnf)
    refine CallVC.mk' (fun _ => K.rd d.disk (hm r.page) S.k) (fun _ => .cons ((mC2 (by rfl))) (.cons (.one (CEq.refl _)) .nil)) ?_
    repeat' first | (with_reducible first | refine wkI ?_ | exact ⟨⟩ | refine wkB (fun _ => ?_) fun _ => ?_ | refine wkT (fun _ => ?_) ?_ | refine wkL ?_) | ((with_reducible refine wkC ?_ ?_); exact CEq.refl _) | ((with_reducible fail_if_success first | constructor | show False); conv => whnf)
    refine CallVC.mk' (fun _ => home_ok K.k.m K.home r.page (by omega) (by omega)) (fun _ => .cons (.one (CEq.refl _)) .nil) ?_
    have hh : hm r.page = 2 * r.page + 1 := rfl
    repeat' first | (with_reducible first | refine wkI ?_ | exact ⟨⟩ | refine wkB (fun _ => ?_) fun _ => ?_ | refine wkT (fun _ => ?_) ?_ | refine wkL ?_) | ((with_reducible refine wkC ?_ ?_); exact CEq.refl _) | ((with_reducible fail_if_success first | constructor | show False); conv => whnf)
    refine CallVC.mk' (fun _ => K.rd d.disk (hm r.page + 1) S.k) (fun _ => .cons ((mC2 (by rfl))) (.cons (.one (CEq.refl _)) .nil)) ?_
    have l1 := Small_len S.k (hm r.page)
    have l2 := Small_len S.k (hm r.page + 1)
    repeat' first | (with_reducible first | refine wkI ?_ | exact ⟨⟩ | refine wkB (fun _ => ?_) fun _ => ?_ | refine wkT (fun _ => ?_) ?_ | refine wkL ?_) | ((with_reducible refine wkC ?_ ?_); exact CEq.refl _) | ((with_reducible fail_if_success first | constructor | show False); conv => whnf)
    refine Need.mk hceq ?_
    repeat' first | (with_reducible first | refine wkI ?_ | exact ⟨⟩ | refine wkB (fun _ => ?_) fun _ => ?_ | refine wkT (fun _ => ?_) ?_ | refine wkL ?_) | ((with_reducible refine wkC ?_ ?_); exact CEq.refl _) | ((with_reducible fail_if_success first | constructor | show False); conv => whnf)
  · rename_i h2 h3 h4
    have h3 := of_decide_eq_false h3
    have h4 := of_decide_eq_true h4
    rw [if_neg h3, if_pos h4]
    obtain ⟨⟨p1, p2⟩, p3⟩ : (1 ≤ r.page ∧ r.page ≤ 16) ∧ r.data.length = 32 := by rcases hok with x | x | x <;> omega
    refine CallVC.mk' (fun _ => put_ok K d.disk r S.k p3 p1 p2) (fun _ => .cons ((mC2 (by rfl))) (.cons ((mC4 (by rfl))) .nil)) ?_
    repeat' first | (with_reducible first | refine wkI ?_ | exact ⟨⟩ | refine wkB (fun _ => ?_) fun _ => ?_ | refine wkT (fun _ => ?_) ?_ | refine wkL ?_) | ((with_reducible refine wkC ?_ ?_); exact CEq.refl _) | ((with_reducible fail_if_success first | constructor | show False); conv => whnf)
    refine Need.mk hceq ?_
    repeat' first | (with_reducible first | refine wkI ?_ | exact ⟨⟩ | refine wkB (fun _ => ?_) fun _ => ?_ | refine wkT (fun _ => ?_) ?_ | refine wkL ?_) | ((with_reducible refine wkC ?_ ?_); exact CEq.refl _) | ((with_reducible fail_if_success first | constructor | show False); conv => whnf)
  · rename_i h2 h3 h4 h5
    have h3 := of_decide_eq_false h3
    have h4 := of_decide_eq_false h4
    rw [if_neg h3, if_neg h4]
    refine CallVC.mk' (fun _ => sync_ok K.k d.disk S.k) (fun _ => .cons ((mC2 (by rfl))) .nil) ?_
    repeat' first | (with_reducible first | refine wkI ?_ | exact ⟨⟩ | refine wkB (fun _ => ?_) fun _ => ?_ | refine wkT (fun _ => ?_) ?_ | refine wkL ?_) | ((with_reducible refine wkC ?_ ?_); exact CEq.refl _) | ((with_reducible fail_if_success first | constructor | show False); conv => whnf)
    refine Need.mk hceq ?_
    repeat' first | (with_reducible first | refine wkI ?_ | exact ⟨⟩ | refine wkB (fun _ => ?_) fun _ => ?_ | refine wkT (fun _ => ?_) ?_ | refine wkL ?_) | ((with_reducible refine wkC ?_ ?_); exact CEq.refl _) | ((with_reducible fail_if_success first | constructor | show False); conv => whnf)
  · rename_i h2 h3 h4 h5
    have h3 := of_decide_eq_false h3
    have h4 := of_decide_eq_false h4
    have h5 := of_decide_eq_false h5
    rcases hok with x | x | x <;> omega
end
end Lk.S04
namespace Lk.S04
open Go Lk Lk.C Lk.S03
section
variable {P : Program} {F : Nat → Nat}
structure KRV (P : Program) (F : Nat → Nat) : Prop where
  r : KRef P F
  rc : KRefC P F
  ref : law04_ref_k P F
  may : ref04_May_k P F
  right : ref04_Right_k P F
  submit : ref04_Submit_k P F
  finish : ref04_Finish_k P F
  same : ref04_Same_k P F
theorem ok_pos {n : Int} {l : List Rq} : ∀ {i : Nat}, (∀ k, k < i → okAt n l k) → ∀ k, k < i → 0 ≤ (l.getD k default).ticket := fun {i} h k hk => by
  induction k with
  | zero => have := (h 0 hk).1; unfold ahead at this; rw [if_pos rfl] at this; omega
  | succ k ih =>
    have := (h (k + 1) hk).1
    unfold ahead at this
    rw [if_neg (by omega), Nat.add_sub_cancel] at this
    have := ih (by omega); omega
theorem okAt_ref {n : Int} {l : List Rq} {i : Nat} (h : ∀ k, k < i → okAt n l k) : okAt n l i ↔ (0 ≤ (l.getD i default).ticket ∧ (l.getD i default).ticket < n) ∧ (0 < i → (l.getD (i - 1) default).ticket < (l.getD i default).ticket) ∧ may (l.getD i default).kind (l.getD i default).page (l.getD i default).data := by
  unfold okAt ahead
  by_cases h0 : i = 0
  · rw [if_pos h0]
    exact ⟨fun ⟨a, b, c⟩ => ⟨⟨by omega, b⟩, fun x => absurd x (by omega), c⟩, fun ⟨⟨a, b⟩, _, c⟩ => ⟨by omega, b, c⟩⟩
  · rw [if_neg h0]
    have := ok_pos h (i - 1) (by omega)
    exact ⟨fun ⟨a, b, c⟩ => ⟨⟨by omega, b⟩, fun _ => a, c⟩, fun ⟨⟨a, b⟩, x, c⟩ => ⟨x (by omega), b, c⟩⟩
theorem rrightV_ok (R : KRV P F) (d : Dv) (W : EDv.wf d) : FnOk P (F 171) [.many 4 (dvE d)] [.one (.im (.bool (decide (rightV d))))] := by
  refine fnOk R.r.m R.right ?_
  have W0 := W.1.1
  have W1 := W.2.1
  repeat' first | (with_reducible first | refine wkI ?_ | exact ⟨⟩ | refine wkB (fun _ => ?_) fun _ => ?_ | refine wkT (fun _ => ?_) ?_ | refine wkL ?_) | ((with_reducible refine wkC ?_ ?_); exact CEq.refl _) | ((with_reducible fail_if_success first | constructor | show False); conv => whnf)
  refine CallVC.mk' (fun _ => S03.rright_ok R.r d.disk W.1) (fun _ => .cons ((mC2 (by rfl))) .nil) ?_
  repeat' first | (with_reducible first | refine wkI ?_ | exact ⟨⟩ | refine wkB (fun _ => ?_) fun _ => ?_ | refine wkT (fun _ => ?_) ?_ | refine wkL ?_) | ((with_reducible refine wkC ?_ ?_); exact CEq.refl _) | ((with_reducible fail_if_success first | constructor | show False); conv => whnf)
  · rename_i h
    rw [decide_eq_false (fun x : rightV d => by
      obtain ⟨⟨a, b⟩, ⟨a1, b1, c1⟩, -⟩ := x
      rw [decide_eq_true a] at h
      simp only [Bool.not_true, Bool.false_or, Bool.or_eq_true, decide_eq_true_eq] at h; omega)]
    repeat' first | (with_reducible first | refine wkI ?_ | exact ⟨⟩ | refine wkB (fun _ => ?_) fun _ => ?_ | refine wkT (fun _ => ?_) ?_ | refine wkF ?_) | ((with_reducible refine wkC ?_ ?_); exact CEq.refl _) | ((with_reducible fail_if_success first | constructor | show False); conv => whnf)
  rename_i h0
  simp only [Bool.or_eq_false_iff, Bool.not_eq_false', decide_eq_true_eq, decide_eq_false_iff_not] at h0
  refine LoopVC.inv (fun i : Nat => i ≤ d.flight.length ∧ ∀ k, k < i → okAt d.next d.flight k) (fun i => stL [(1, .va 1 0 0), (3, .c (.int .i64 i))]
    [(1, vE [.c (slL 1 strE d.disk.secs), .c (slL 2 wrE d.disk.cache), .c (.int .i64 d.next), .c (slL 4 rqE d.flight)])]) (fun i => d.flight.length - i) 0 ⟨Nat.zero_le _, fun k hk => by omega⟩ ?_ ?_
  · (refine Le.of ?_ ?_ <;> repeat' first | exact trivial | exact CEq.refl _ | exact rfl | exact cI (by push_cast; first | rfl | omega) | exact SubE.dat fun _ _ _ _ => CEq.refl _ | refine SubE.varN ?_ | refine Exists.intro _ (And.intro rfl ?_) | refine And.intro ?_ ?_)
  rintro Q hQ i ⟨hi, hok⟩
  repeat' first | (with_reducible first | refine wkI ?_ | exact ⟨⟩ | refine wkB (fun _ => ?_) fun _ => ?_ | refine wkT (fun _ => ?_) ?_ | refine wkL ?_) | ((with_reducible refine wkC ?_ ?_); exact CEq.refl _) | ((with_reducible fail_if_success first | constructor | show False); conv => whnf)
  · rename_i h1
    have h1 : (i : Int) < d.flight.length := of_decide_eq_true h1
    have hr := W.2.2.2 _ (getD_mem (show i < d.flight.length by omega))
    repeat' first | (with_reducible first | refine wkI ?_ | exact ⟨⟩ | refine wkB (fun _ => ?_) fun _ => ?_ | refine wkT (fun _ => ?_) ?_ | refine wkL ?_) | ((with_reducible refine wkC ?_ ?_); exact CEq.refl _) | ((with_reducible fail_if_success first | constructor | show False); conv => whnf)
    refine Need.mk (fun x => by have := of_decide_eq_true x.2; omega) ?_
    rw [Int.toNat_natCast]
    repeat' first | (with_reducible first | refine wkI ?_ | exact ⟨⟩ | refine wkB (fun _ => ?_) fun _ => ?_ | refine wkT (fun _ => ?_) ?_ | refine wkL ?_) | ((with_reducible refine wkC ?_ ?_); exact CEq.refl _) | ((with_reducible fail_if_success first | constructor | show False); conv => whnf)
    refine CallVC.mk' (fun _ => rmay_ok R.r.m R.may _ _ _ hr) (fun _ => .cons (.one (CEq.refl _)) (.cons (.one (CEq.refl _)) (.cons (.one (CEq.refl _)) .nil))) ?_
    repeat' first | (with_reducible first | refine wkI ?_ | exact ⟨⟩ | refine wkB (fun _ => ?_) fun _ => ?_ | refine wkT (fun _ => ?_) ?_ | refine wkL ?_) | ((with_reducible refine wkC ?_ ?_); exact CEq.refl _) | ((with_reducible fail_if_success first | constructor | show False); conv => whnf)
    · rename_i h2
      refine Out.mk (hQ _ _ ?_)
      rw [decide_eq_false (fun x : rightV d => by
        have x := (okAt_ref hok).1 (x.2.2 i (by omega))
        rw [show ((i : Int) - 1).toNat = i - 1 by omega, decide_eq_true x.2.2] at h2
        simp only [Bool.or_eq_true, Bool.and_eq_true, decide_eq_true_eq, Bool.not_true, Bool.false_eq_true, or_false] at h2
        rcases h2 with h2 | h2
        · omega
        · have := x.2.1 (by omega); omega)]
      repeat' first | (with_reducible first | refine wkI ?_ | exact ⟨⟩ | refine wkB (fun _ => ?_) fun _ => ?_ | refine wkT (fun _ => ?_) ?_ | refine wkF ?_) | ((with_reducible refine wkC ?_ ?_); exact CEq.refl _) | ((with_reducible fail_if_success first | constructor | show False); conv => whnf)
    · rename_i h2
      rw [show ((i : Int) - 1).toNat = i - 1 by omega] at h2
      simp only [Bool.or_eq_false_iff, Bool.and_eq_false_imp, decide_eq_false_iff_not, decide_eq_true_eq, Bool.not_eq_false'] at h2
      refine LoopEnd.mk ⟨i + 1, ⟨by omega, fun k hk => ?_⟩, by omega, by (refine Le.of ?_ ?_ <;> repeat' first | exact trivial | exact CEq.refl _ | exact rfl | exact cI (by push_cast; first | rfl | omega) | exact SubE.dat fun _ _ _ _ => CEq.refl _ | refine SubE.varN ?_ | refine Exists.intro _ (And.intro rfl ?_) | refine And.intro ?_ ?_)⟩
      rcases Nat.lt_or_ge k i with h9 | h9
      · exact hok k h9
      · obtain rfl : k = i := by omega
        exact (okAt_ref hok).2 ⟨⟨by omega, by omega⟩, fun x => by have := h2.1.2 (by omega); omega, h2.2⟩
  · rename_i h1
    have h1 : ¬ (i : Int) < d.flight.length := of_decide_eq_false h1
    refine Out.mk (hQ _ _ ?_)
    rw [decide_eq_true (show rightV d from ⟨⟨h0.1.1.1.1, by omega⟩, ⟨by omega, by omega, by omega⟩, fun k hk => hok k (by omega)⟩)]
    repeat' first | (with_reducible first | refine wkI ?_ | exact ⟨⟩ | refine wkB (fun _ => ?_) fun _ => ?_ | refine wkT (fun _ => ?_) ?_ | refine wkF ?_) | ((with_reducible refine wkC ?_ ?_); exact CEq.refl _) | ((with_reducible fail_if_success first | constructor | show False); conv => whnf)
theorem rsubmit_ok (R : KRV P F) (d : Dv) (k p : Int) (s : List UInt8) (W : EDv.wf d) (S : SmallV d) (hs : s.length ≤ 9223372036854775807) :
    FnOk P (F 169) [.many 4 (dvE d), .one (.int .i64 k), .one (.int .i64 p), .one (.str s)] [.many 4 (fun j => .im (dvE (subm d k p s).1 j)), .one (.im (.int .i64 (subm d k p s).2.1)), .one (.im (.int .i64 (subm d k p s).2.2))] := by
  refine fnOk R.r.m R.submit ?_
  have hf := S.f
  repeat' first | (with_reducible first | refine wkI ?_ | exact ⟨⟩ | refine wkB (fun _ => ?_) fun _ => ?_ | refine wkT (fun _ => ?_) ?_ | refine wkL ?_) | ((with_reducible refine wkC ?_ ?_); exact CEq.refl _) | ((with_reducible fail_if_success first | constructor | show False); conv => whnf)
  refine CallVC.mk' (fun _ => rrightV_ok R d W) (fun _ => .cons ((mC4 (by rfl))) .nil) ?_
  repeat' first | (with_reducible first | refine wkI ?_ | exact ⟨⟩ | refine wkB (fun _ => ?_) fun _ => ?_ | refine wkT (fun _ => ?_) ?_ | refine wkL ?_) | ((with_reducible refine wkC ?_ ?_); exact CEq.refl _) | ((with_reducible fail_if_success first | constructor | show False); conv => whnf)
  refine CallVC.mk' (fun _ => rmay_ok R.r.m R.may k p s hs) (fun _ => .cons (.one (CEq.refl _)) (.cons (.one (CEq.refl _)) (.cons (.one (CEq.refl _)) .nil))) ?_
  repeat' first | (with_reducible first | refine wkI ?_ | exact ⟨⟩ | refine wkB (fun _ => ?_) fun _ => ?_ | refine wkT (fun _ => ?_) ?_ | refine wkL ?_) | ((with_reducible refine wkC ?_ ?_); exact CEq.refl _) | ((with_reducible fail_if_success first | constructor | show False); conv => whnf)
  · rename_i h
    have h : subNo d k p s := by
      simp only [Bool.or_eq_true, Bool.not_eq_true', decide_eq_false_iff_not, decide_eq_true_eq, or_assoc] at h
      exact h
    rw [show subm d k p s = (d, 0, 1) from if_pos h]
    repeat' first | (with_reducible first | refine wkI ?_ | exact ⟨⟩ | refine wkB (fun _ => ?_) fun _ => ?_ | refine wkT (fun _ => ?_) ?_ | refine wkL ?_) | ((with_reducible refine wkC ?_ ?_); exact CEq.refl _) | ((with_reducible fail_if_success first | constructor | show False); conv => whnf)
  · rename_i h0 h
    have h0 : ¬ subNo d k p s := by
      simp only [Bool.or_eq_false_iff, Bool.not_eq_false', decide_eq_false_iff_not, decide_eq_true_eq] at h0
      rintro (x | x | x)
      · exact x h0.1.1
      · exact h0.1.2 x
      · exact x h0.2
    have h := of_decide_eq_true h
    rw [show subm d k p s = (d, 0, 6) by unfold subm; rw [if_neg h0, if_pos (by omega)]]
    repeat' first | (with_reducible first | refine wkI ?_ | exact ⟨⟩ | refine wkB (fun _ => ?_) fun _ => ?_ | refine wkT (fun _ => ?_) ?_ | refine wkL ?_) | ((with_reducible refine wkC ?_ ?_); exact CEq.refl _) | ((with_reducible fail_if_success first | constructor | show False); conv => whnf)
  rename_i h0 h
  have h0 : ¬ subNo d k p s := by
    simp only [Bool.or_eq_false_iff, Bool.not_eq_false', decide_eq_false_iff_not, decide_eq_true_eq] at h0
    rintro (x | x | x)
    · exact x h0.1.1
    · exact h0.1.2 x
    · exact x h0.2
  have h := of_decide_eq_false h
  have hv : rightV d := Classical.byContradiction fun x => h0 (.inl x)
  have hn := hv.2.1
  rw [show subm d k p s = (⟨d.disk, d.next + 1, d.flight ++ [⟨d.next, k, p, s⟩]⟩, d.next, 0) by unfold subm; rw [if_neg h0, if_neg (by omega)]]
  repeat' first | (with_reducible first | refine wkI ?_ | exact ⟨⟩ | refine wkB (fun _ => ?_) fun _ => ?_ | refine wkT (fun _ => ?_) ?_ | refine wkL ?_) | ((with_reducible refine wkC ?_ ?_); exact CEq.refl _) | ((with_reducible fail_if_success first | constructor | show False); conv => whnf)
  refine Need.mk (((IsL.app (size := 4) (enc := rqE) (l := d.flight) IsL.refl rfl (IsL.one (x := ⟨d.next, k, p, s⟩) fun j hj => by
    rcases (show j = 0 ∨ j = 1 ∨ j = 2 ∨ j = 3 by omega) with rfl | rfl | rfl | rfl <;> exact CEq.refl _)).off).ceq (by simp)) ?_
  repeat' first | (with_reducible first | refine wkI ?_ | exact ⟨⟩ | refine wkB (fun _ => ?_) fun _ => ?_ | refine wkT (fun _ => ?_) ?_ | refine wkL ?_) | ((with_reducible refine wkC ?_ ?_); exact CEq.refl _) | ((with_reducible fail_if_success first | constructor | show False); conv => whnf)
theorem rq_eq {a b : Rq} : (decide (a.ticket = b.ticket) && (decide (a.kind = b.kind) && (decide (a.page = b.page) && decide (a.data = b.data)))) = decide (a = b) := by
  rw [Bool.eq_iff_iff]
  simp only [Bool.and_eq_true, decide_eq_true_eq]
  cases a; cases b; simp
theorem rsameV_ok (R : KRV P F) (a b : Dv) (Sa : SmallV a) (Sb : SmallV b) : FnOk P (F 170) [.many 4 (dvE a), .many 4 (dvE b)] [.one (.im (.bool (decide (a = b))))] := by
  refine fnOk R.r.m R.same ?_
  have h1 := Sa.f
  have h2 := Sb.f
  repeat' first | (with_reducible first | refine wkI ?_ | exact ⟨⟩ | refine wkB (fun _ => ?_) fun _ => ?_ | refine wkT (fun _ => ?_) ?_ | refine wkL ?_) | ((with_reducible refine wkC ?_ ?_); exact CEq.refl _) | ((with_reducible fail_if_success first | constructor | show False); conv => whnf)
  refine CallVC.mk' (fun _ => S03.same_ok R.r a.disk b.disk Sa.k Sb.k) (fun _ => .cons ((mC2 (by rfl))) (.cons ((mC2 (by rfl))) .nil)) ?_
  repeat' first | (with_reducible first | refine wkI ?_ | exact ⟨⟩ | refine wkB (fun _ => ?_) fun _ => ?_ | refine wkT (fun _ => ?_) ?_ | refine wkL ?_) | ((with_reducible refine wkC ?_ ?_); exact CEq.refl _) | ((with_reducible fail_if_success first | constructor | show False); conv => whnf)
  · rename_i h
    rw [decide_eq_false (fun x : a = b => by subst x; simp at h)]
    repeat' first | (with_reducible first | refine wkI ?_ | exact ⟨⟩ | refine wkB (fun _ => ?_) fun _ => ?_ | refine wkT (fun _ => ?_) ?_ | refine wkF ?_) | ((with_reducible refine wkC ?_ ?_); exact CEq.refl _) | ((with_reducible fail_if_success first | constructor | show False); conv => whnf)
  rename_i h
  simp only [Bool.or_eq_false_iff, Bool.not_eq_false', decide_eq_true_eq] at h
  obtain ⟨⟨e1, e2⟩, e3⟩ := h
  have e3 : a.flight.length = b.flight.length := by have : (a.flight.length : Int) = b.flight.length := by simpa using e3
                                                    omega
  have e2 : a.next = b.next := by simpa using e2
  refine LoopVC.inv (fun i : Nat => i ≤ a.flight.length ∧ ∀ k, k < i → a.flight.getD k default = b.flight.getD k default) (fun i => stL [(2, .va 2 0 0), (3, .va 3 0 0), (5, .c (.int .i64 i))]
    [(2, vE [.c (slL 1 strE a.disk.secs), .c (slL 2 wrE a.disk.cache), .c (.int .i64 a.next), .c (slL 4 rqE a.flight)]), (3, vE [.c (slL 1 strE b.disk.secs), .c (slL 2 wrE b.disk.cache), .c (.int .i64 b.next), .c (slL 4 rqE b.flight)])]) (fun i => a.flight.length - i) 0 ⟨Nat.zero_le _, fun k hk => by omega⟩ ?_ ?_
  · (refine Le.of ?_ ?_ <;> repeat' first | exact trivial | exact CEq.refl _ | exact rfl | exact cI (by push_cast; first | rfl | omega) | exact SubE.dat fun _ _ _ _ => CEq.refl _ | refine SubE.varN ?_ | refine Exists.intro _ (And.intro rfl ?_) | refine And.intro ?_ ?_)
  rintro Q hQ i ⟨hi, hok⟩
  repeat' first | (with_reducible first | refine wkI ?_ | exact ⟨⟩ | refine wkB (fun _ => ?_) fun _ => ?_ | refine wkT (fun _ => ?_) ?_ | refine wkL ?_) | ((with_reducible refine wkC ?_ ?_); exact CEq.refl _) | ((with_reducible fail_if_success first | constructor | show False); conv => whnf)
  · rename_i g1
    have g1 : (i : Int) < a.flight.length := of_decide_eq_true g1
    repeat' first | (with_reducible first | refine wkI ?_ | exact ⟨⟩ | refine wkB (fun _ => ?_) fun _ => ?_ | refine wkT (fun _ => ?_) ?_ | (refine Need.mk ?_ ?_; (first | omega | with_reducible exact CEq.refl _ | (dsimp only; omega) | (rw [Int.toNat_natCast]; omega) | (dsimp only [rng]; omega)))) | ((with_reducible refine wkC ?_ ?_); exact CEq.refl _) | ((with_reducible fail_if_success first | constructor | show False); conv => whnf)
    · rename_i g2
      rw [Int.toNat_natCast, cond_true, rq_eq] at g2
      simp only [Bool.not_eq_true', decide_eq_false_iff_not] at g2
      refine Out.mk (hQ _ _ ?_)
      rw [decide_eq_false (fun x : a = b => g2 (by rw [x]))]
      repeat' first | (with_reducible first | refine wkI ?_ | exact ⟨⟩ | refine wkB (fun _ => ?_) fun _ => ?_ | refine wkT (fun _ => ?_) ?_ | refine wkF ?_) | ((with_reducible refine wkC ?_ ?_); exact CEq.refl _) | ((with_reducible fail_if_success first | constructor | show False); conv => whnf)
    · rename_i g2
      rw [Int.toNat_natCast, cond_true, rq_eq] at g2
      simp only [Bool.not_eq_false', decide_eq_true_eq] at g2
      refine LoopEnd.mk ⟨i + 1, ⟨by omega, fun k hk => ?_⟩, by omega, by (refine Le.of ?_ ?_ <;> repeat' first | exact trivial | exact CEq.refl _ | exact rfl | exact cI (by push_cast; first | rfl | omega) | exact SubE.dat fun _ _ _ _ => CEq.refl _ | refine SubE.varN ?_ | refine Exists.intro _ (And.intro rfl ?_) | refine And.intro ?_ ?_)⟩
      rcases Nat.lt_or_ge k i with h9 | h9
      · exact hok k h9
      · obtain rfl : k = i := by omega
        exact g2
  · rename_i g1
    have g1 : ¬ (i : Int) < a.flight.length := of_decide_eq_false g1
    refine Out.mk (hQ _ _ ?_)
    rw [decide_eq_true (show a = b from by
      have e4 := eq_of_getD e3 (fun k hk => hok k (by omega))
      cases a; cases b
      simp only at e1 e2 e4
      subst e1 e2 e4; rfl)]
    repeat' first | (with_reducible first | refine wkI ?_ | exact ⟨⟩ | refine wkB (fun _ => ?_) fun _ => ?_ | refine wkT (fun _ => ?_) ?_ | refine wkF ?_) | ((with_reducible refine wkC ?_ ?_); exact CEq.refl _) | ((with_reducible fail_if_success first | constructor | show False); conv => whnf)
def refB (d : Dv) (i : Nat) : Bool := decide (100 < (d.flight.getD i default).data.length)
def refOk (d : Dv) : Prop := (tiny d.disk ∧ d.flight.length ≤ 20) ∧ fstN (refB d) d.flight.length = d.flight.length
instance (d : Dv) : Decidable (refOk d) := by unfold refOk; infer_instance
theorem refOk.small {d : Dv} (h : refOk d) : SmallV d :=
  ⟨h.1.1.small, by have := h.1.2; omega, all_of_getD fun i hi => by
    have := fstN_ahead (p := refB d) (n := d.flight.length) (j := i) (by rw [h.2]; exact hi)
    have := of_decide_eq_false this; omega⟩
end
end Lk.S04
namespace Lk.S04
open Go Lk Lk.C Lk.S03
theorem wo_step {l : List Rq} {a i : Nat} (hi : i < l.length) (h : i ≠ a) : without (l.take (i + 1)) a = without (l.take i) a ++ [l.getD i default] := by
  unfold without
  rw [take_snoc hi]
  have hl : (l.take i).length = i := by rw [List.length_take]; omega
  by_cases h1 : a < i
  · rw [List.take_append_of_le_length (by omega), List.drop_append_of_le_length (by omega), List.append_assoc]
  · have e1 : (l.take i ++ [l.getD i default]).take a = l.take i ++ [l.getD i default] := List.take_of_length_le (by rw [List.length_append, hl]; simp; omega)
    have e2 : (l.take i).take a = l.take i := List.take_of_length_le (by omega)
    have e3 : (l.take i ++ [l.getD i default]).drop (a + 1) = [] := List.drop_eq_nil_of_le (by rw [List.length_append, hl]; simp; omega)
    have e4 : (l.take i).drop (a + 1) = [] := List.drop_eq_nil_of_le (by omega)
    rw [e1, e2, e3, e4, List.append_nil, List.append_nil]
theorem wo_same {l : List Rq} {a : Nat} (hi : a < l.length) : without (l.take (a + 1)) a = without (l.take a) a := by
  unfold without
  rw [take_snoc hi]
  have hl : (l.take a).length = a := by rw [List.length_take]; omega
  rw [List.take_append_of_le_length (by omega), List.drop_eq_nil_of_le (by simp; omega), List.drop_eq_nil_of_le (by omega)]
theorem wo_len {l : List Rq} {a i : Nat} : (without (l.take i) a).length ≤ l.length := by
  unfold without; simp; omega
theorem fits_w {d : Dsk} {r : Rq} (h : right d) (h35 : 35 ≤ d.secs.length) (hl : r.data.length = 32) (hp1 : 1 ≤ r.page) (hp2 : r.page ≤ 16) : fits d (w0 r) ∧ fits d (w1 r) := by
  unfold fits w0 w1 hm
  simp only [List.length_take, List.length_drop]
  omega
theorem put_fit {d : Dsk} {w : Wr} (h : right d) (f : fits d w) (hc : d.cache.length < 200) : d.put w = ⟨d.secs, d.cache ++ [w]⟩ := by unfold Dsk.put; rw [if_pos ⟨h, f, hc⟩]
theorem putR_eq {d : Dsk} {r : Rq} (h : right d) (h35 : 35 ≤ d.secs.length) (hl : r.data.length = 32) (hp1 : 1 ≤ r.page) (hp2 : r.page ≤ 16) :
    putR d r = if d.cache.length < 200 then (if d.cache.length + 1 = 200 then (⟨d.secs, d.cache ++ [w0 r]⟩, 7) else (⟨d.secs, d.cache ++ [w0 r] ++ [w1 r]⟩, 0)) else (d, 7) := by
  obtain ⟨f0, f1⟩ := fits_w h h35 hl hp1 hp2
  by_cases hc : d.cache.length < 200
  · have e0 : d.putE (w0 r) = 0 := by unfold Dsk.putE; rw [if_pos ⟨h, f0⟩, if_pos hc]
    have p0 : d.put (w0 r) = ⟨d.secs, d.cache ++ [w0 r]⟩ := by unfold Dsk.put; rw [if_pos ⟨h, f0, hc⟩]
    have hr : right (d.put (w0 r)) := h.put
    have f1' : fits (d.put (w0 r)) (w1 r) := by rw [p0]; exact f1
    unfold putR
    rw [if_neg (by rw [e0]; simp), if_pos hc]
    have hcl : (d.put (w0 r)).cache.length = d.cache.length + 1 := by rw [p0]; simp
    by_cases hf : d.cache.length + 1 = 200
    · rw [if_pos hf, if_pos (by unfold Dsk.putE; rw [if_pos ⟨hr, f1'⟩, if_neg (by omega)]; decide), p0]
    · rw [if_neg hf, if_neg (by unfold Dsk.putE; rw [if_pos ⟨hr, f1'⟩, if_pos (by omega)]; simp)]
      rw [put_fit hr f1' (by omega), p0]
  · unfold putR
    rw [if_pos (by unfold Dsk.putE; rw [if_pos ⟨h, f0⟩, if_neg hc]; decide), if_neg hc]
theorem rd_in {d : Dsk} {i : Nat} (h : right d) (hi : i < d.secs.length) : d.rd i = (d.read i, 0) := by
  unfold Dsk.rd
  rw [if_pos ⟨h, by omega, by omega⟩, Int.toNat_natCast]
section
variable {P : Program} {F : Nat → Nat}
theorem rfinish_ok (R : KRV P F) (d : Dv) (at_ : Int) (fault : Bool) (W : EDv.wf d) (S : SmallV d) :
    FnOk P (F 173) [.many 4 (dvE d), .one (.int .i64 at_), .one (.bool fault)] [.many 4 (fun j => .im (dvE (finD d at_ fault).1 j)), .many 4 (fun j => .im (rqE (finD d at_ fault).2.1 j)), .one (.im (.int .i64 (finD d at_ fault).2.2))] := by
  refine fnOk R.r.m R.finish ?_
  have hf := S.f
  repeat' first | (with_reducible first | refine wkI ?_ | exact ⟨⟩ | refine wkB (fun _ => ?_) fun _ => ?_ | refine wkT (fun _ => ?_) ?_ | refine wkL ?_) | ((with_reducible refine wkC ?_ ?_); exact CEq.refl _) | ((with_reducible fail_if_success first | constructor | show False); conv => whnf)
  refine CallVC.mk' (fun _ => rrightV_ok R d W) (fun _ => .cons ((mC4 (by rfl))) .nil) ?_
  repeat' first | (with_reducible first | refine wkI ?_ | exact ⟨⟩ | refine wkB (fun _ => ?_) fun _ => ?_ | refine wkT (fun _ => ?_) ?_ | refine wkL ?_) | ((with_reducible refine wkC ?_ ?_); exact CEq.refl _) | ((with_reducible fail_if_success first | constructor | show False); conv => whnf)
  · rename_i h
    have h : finNo d at_ := by
      simp only [Bool.or_eq_true, Bool.not_eq_true', decide_eq_false_iff_not, decide_eq_true_eq, or_assoc] at h
      exact h
    rw [show finD d at_ fault = (d, ⟨0, 0, 0, []⟩, 1) from if_pos h]
    repeat' first | (with_reducible first | refine wkI ?_ | exact ⟨⟩ | refine wkB (fun _ => ?_) fun _ => ?_ | refine wkT (fun _ => ?_) ?_ | refine wkL ?_) | ((with_reducible refine wkC ?_ ?_); exact CEq.refl _) | ((with_reducible fail_if_success first | constructor | show False); conv => whnf)
  rename_i h
  have h : ¬ finNo d at_ := by
    simp only [Bool.or_eq_false_iff, Bool.not_eq_false', decide_eq_false_iff_not, decide_eq_true_eq] at h
    rintro (x | x | x)
    · exact x h.1.1
    · exact h.1.2 x
    · exact h.2 x
  have hv : rightV d := Classical.byContradiction fun x => h (.inl x)
  have ha0 : 0 ≤ at_ := by have : ¬ at_ < 0 := fun x => h (.inr (.inl x)); omega
  obtain ⟨a, rfl⟩ : ∃ i : Nat, at_ = i := ⟨at_.toNat, by omega⟩
  have ha : a < d.flight.length := by have : ¬ (d.flight.length : Int) ≤ a := fun x => h (.inr (.inr x)); omega
  have hn := hv.2.1
  have hok := (hv.2.2 a ha).2.2
  refine LoopVC.inv (fun i : Nat => i ≤ d.flight.length) (fun i => stL [(1, .c (.int .i64 a)), (2, .c (.bool fault)), (3, .va 3 0 0), (6, .va 6 0 0), (7, .va 7 0 0), (9, .va 9 0 0), (10, .c (.int .i64 i))]
    [(3, vE [.c (slL 1 strE d.disk.secs), .c (slL 2 wrE d.disk.cache), .c (.int .i64 d.next), .c (slL 4 rqE d.flight)]), (6, vE [.nil 1, .nil 2, .c (.int .i64 0), .nil 4]), (7, vE [.c (.int .i64 0), .c (.int .i64 0), .c (.int .i64 0), .c (.str [])]),
     (9, vE [.c (slL 1 strE d.disk.secs), .c (slL 2 wrE d.disk.cache), .c (.int .i64 d.next), .os 54 0 4 0 (without (d.flight.take i) a).length]), (54, ⟨4, (without (d.flight.take i) a).length, .dat fun r j => rqE ((without (d.flight.take i) a).getD r default) j, false, true⟩)]) (fun i => d.flight.length - i) 0 (Nat.zero_le _) ?_ ?_
  · have hw0 : without (d.flight.take 0) a = [] := by unfold without; simp
    rw [hw0]
    (refine Le.ofN [54] ?_ ?_ <;> repeat' first | exact trivial | exact SubF.inr ⟨_, _, _, rfl, rfl, rfl⟩ | exact SubF.inl (cI (by push_cast; first | rfl | omega)) | exact SubF.inl (CEq.refl _) | exact SubF.inl rfl | exact SubF.inl trivial | exact SubF.inl ⟨rfl, rfl, rfl⟩ | exact SubF.inl ⟨rfl, rfl, rfl, rfl, rfl⟩ | exact Or.inl ⟨rfl, rfl⟩ | refine Or.inr ⟨rfl, _, rfl, ?_⟩ | refine SubEF.var2 ?_ ?_ | refine SubEF.var1 ?_ | refine SubEF.var3 ?_ ?_ ?_ | refine SubEF.varN ?_ | refine SubEF.var4 ?_ ?_ ?_ ?_ | exact SubEF.of (SubE.dat fun _ _ _ _ => CEq.refl _) | refine And.intro ?_ ?_ | refine SubF.frz rfl rfl rfl rfl (Nat.le_of_eq (Nat.zero_add _)) rfl rfl ?_)
  rintro Q hQ i hi
  have hwl : (without (d.flight.take i) a).length ≤ d.flight.length := wo_len
  repeat' first | (with_reducible first | refine wkI ?_ | exact ⟨⟩ | refine wkB (fun _ => ?_) fun _ => ?_ | refine wkT (fun _ => ?_) ?_ | refine wkL ?_) | ((with_reducible refine wkC ?_ ?_); exact CEq.refl _) | ((with_reducible fail_if_success first | constructor | show False); conv => whnf)
  · rename_i g1 g2
    have g1 : i < d.flight.length := by have := of_decide_eq_true g1; omega
    have g2 : i ≠ a := by simp only [Bool.not_eq_true', decide_eq_false_iff_not] at g2; omega
    repeat' first | (with_reducible first | refine wkI ?_ | exact ⟨⟩ | refine wkB (fun _ => ?_) fun _ => ?_ | refine wkT (fun _ => ?_) ?_ | refine wkL ?_) | ((with_reducible refine wkC ?_ ?_); exact CEq.refl _) | ((with_reducible fail_if_success first | constructor | show False); conv => whnf)
    refine LoopEnd.mk ⟨i + 1, g1, by omega, ?_⟩
    have e := wo_step g1 g2
    have el : (without (d.flight.take (i + 1)) a).length = (without (d.flight.take i) a).length + 1 := by rw [e]; simp
    rw [el]
    (refine Le.of ?_ ?_ <;> repeat' first | exact trivial | exact CEq.refl _ | exact rfl | exact cI (by push_cast; first | rfl | omega) | exact SubE.dat fun _ _ _ _ => CEq.refl _ | refine SubE.varN ?_ | refine Exists.intro _ (And.intro rfl ?_) | refine And.intro ?_ ?_)
    refine SubE.dat fun r hr j hj => ?_
    have hr : r < (without (d.flight.take i) a).length + 1 := hr
    rw [e]
    exact (IsL.app (size := 4) (enc := rqE) (l := without (d.flight.take i) a) IsL.refl rfl (IsL.one (x := d.flight.getD i default) fun j hj => by
      rcases (show j = 0 ∨ j = 1 ∨ j = 2 ∨ j = 3 by omega) with rfl | rfl | rfl | rfl <;> exact CEq.refl _)) r (by simpa using hr) j hj
  · rename_i g1 g2
    have g1 : i < d.flight.length := by have := of_decide_eq_true g1; omega
    have g2 : i = a := by simp only [Bool.not_eq_false', decide_eq_true_eq] at g2; omega
    subst g2
    refine LoopEnd.mk ⟨i + 1, g1, by omega, ?_⟩
    rw [wo_same g1]
    (refine Le.of ?_ ?_ <;> repeat' first | exact trivial | exact CEq.refl _ | exact rfl | exact cI (by push_cast; first | rfl | omega) | exact SubE.dat fun _ _ _ _ => CEq.refl _ | refine SubE.varN ?_ | refine Exists.intro _ (And.intro rfl ?_) | refine And.intro ?_ ?_)
  · rename_i g1
    have g1 : i = d.flight.length := by have := of_decide_eq_false g1; omega
    have hr := S.lf _ (getD_mem ha)
    have hfin : finD d a fault = if fault then (⟨d.disk, d.next, without d.flight a⟩, d.flight.getD a default, 8) else fin1 d (d.flight.getD a default) (without d.flight a) := by
      unfold finD; rw [if_neg h, Int.toNat_natCast]
    refine Out.mk (hQ _ _ ?_)
    rw [hfin]
    clear hfin hQ
    rw [g1, List.take_length]
    rw [g1, List.take_length] at hwl
    have hceq : CEq (Cell.sl 4 (without d.flight a).length fun r j => rqE ((without d.flight a).getD (addN 0 r) default) j) (slL 4 rqE (without d.flight a)) := (IsL.refl (l := without d.flight a)).off.ceq rfl
    repeat' first | (with_reducible first | refine wkI ?_ | exact ⟨⟩ | refine wkB (fun _ => ?_) fun _ => ?_ | refine wkT (fun _ => ?_) ?_ | refine wkL ?_) | ((with_reducible refine wkC ?_ ?_); exact CEq.refl _) | ((with_reducible fail_if_success first | constructor | show False); conv => whnf)
    · rename_i h2
      rw [Int.toNat_natCast]
      generalize d.flight.getD a default = r at *
      generalize without d.flight a = lw at *
      rw [if_pos h2]
      repeat' first | (with_reducible first | refine wkI ?_ | exact ⟨⟩ | refine wkB (fun _ => ?_) fun _ => ?_ | refine wkT (fun _ => ?_) ?_ | refine wkL ?_) | ((with_reducible refine wkC ?_ ?_); exact CEq.refl _) | ((with_reducible fail_if_success first | constructor | show False); conv => whnf)
    rename_i h2
    rw [Int.toNat_natCast, if_neg (by rw [h2]; simp)]
    generalize d.flight.getD a default = r at *
    generalize without d.flight a = lw at *
    have hp : 0 ≤ r.page ∧ r.page ≤ 16 := by rcases hok with x | x | x <;> omega
    have hc := S.k.c
    have hd := hv.1
    unfold fin1
    repeat' first | (with_reducible first | refine wkI ?_ | exact ⟨⟩ | refine wkB (fun _ => ?_) fun _ => ?_ | refine wkT (fun _ => ?_) ?_ | refine wkL ?_) | ((with_reducible refine wkC ?_ ?_); exact CEq.refl _) | ((with_reducible fail_if_success first | constructor | show False); conv => whnf)
    · rename_i h3
      have h3 := of_decide_eq_true h3
      obtain ⟨p1, p2⟩ : 1 ≤ r.page ∧ r.page ≤ 16 := by rcases hok with x | x | x <;> omega
      rw [if_pos h3]
      obtain ⟨p, hpe⟩ : ∃ p : Nat, r.page = p := ⟨r.page.toNat, by omega⟩
      have htwo : two d.disk r.page = d.disk.read (2 * p + 1) ++ d.disk.read (2 * p + 2) := by
        unfold two hm
        rw [show 2 * r.page + 1 = ((2 * p + 1 : Nat) : Int) by omega, show ((2 * p + 1 : Nat) : Int) + 1 = ((2 * p + 2 : Nat) : Int) by omega, rd_in hd.1 (by omega), rd_in hd.1 (by omega)]
      rw [htwo]
      refine CallVC.mk' (fun _ => rread_ok R.r d.disk (2 * p + 1) S.k (by omega)) (fun _ => .cons ((mC2 (by rfl))) (.cons (.one (eI (by omega))) .nil)) ?_
      repeat' first | (with_reducible first | refine wkI ?_ | exact ⟨⟩ | refine wkB (fun _ => ?_) fun _ => ?_ | refine wkT (fun _ => ?_) ?_ | refine wkL ?_) | ((with_reducible refine wkC ?_ ?_); exact CEq.refl _) | ((with_reducible fail_if_success first | constructor | show False); conv => whnf)
      refine CallVC.mk' (fun _ => rread_ok R.r d.disk (2 * p + 2) S.k (by omega)) (fun _ => .cons ((mC2 (by rfl))) (.cons (.one (eI (by omega))) .nil)) ?_
      have l1 : (d.disk.read (2 * p + 1)).length ≤ 1000000 := by have := Small_len S.k ((2 * p + 1 : Nat) : Int); rw [rd_in hd.1 (by omega)] at this; exact this
      have l2 : (d.disk.read (2 * p + 2)).length ≤ 1000000 := by have := Small_len S.k ((2 * p + 2 : Nat) : Int); rw [rd_in hd.1 (by omega)] at this; exact this
      repeat' first | (with_reducible first | refine wkI ?_ | exact ⟨⟩ | refine wkB (fun _ => ?_) fun _ => ?_ | refine wkT (fun _ => ?_) ?_ | refine wkL ?_) | ((with_reducible refine wkC ?_ ?_); exact CEq.refl _) | ((with_reducible fail_if_success first | constructor | show False); conv => whnf)
    · rename_i h3 h4 h5
      have h3 := of_decide_eq_false h3
      have h4 := of_decide_eq_true h4
      have h5 := of_decide_eq_true h5
      rw [if_neg h3, if_pos h4]
      obtain ⟨⟨p1, p2⟩, p3⟩ : (1 ≤ r.page ∧ r.page ≤ 16) ∧ r.data.length = 32 := by rcases hok with x | x | x <;> omega
      rw [putR_eq hd.1 hd.2 p3 p1 p2, if_pos (by omega)]
      have wr2 : ∀ (g : Nat → Nat → Cell) (w : Wr), CEq (g 0 0) (.int .i64 w.at_) → CEq (g 0 1) (.str w.data) → IsL 2 wrE [w] g := fun g w e0 e1 => IsL.one fun j hj => by
        rcases (show j = 0 ∨ j = 1 by omega) with rfl | rfl
        · exact e0
        · exact e1
      repeat' first | (with_reducible first | refine wkI ?_ | exact ⟨⟩ | refine wkB (fun _ => ?_) fun _ => ?_ | refine wkT (fun _ => ?_) ?_ | refine wkL ?_) | ((with_reducible refine wkC ?_ ?_); exact CEq.refl _) | ((with_reducible fail_if_success first | constructor | show False); conv => whnf)
      · rename_i g1 g2
        rw [g2] at g1; cases g1
      · rename_i g1 g2
        have g2 := of_decide_eq_false g2
        rw [if_neg (by omega)]
        repeat' first | (with_reducible first | refine wkI ?_ | exact ⟨⟩ | refine wkB (fun _ => ?_) fun _ => ?_ | refine wkT (fun _ => ?_) ?_ | refine wkL ?_) | ((with_reducible refine wkC ?_ ?_); exact CEq.refl _) | ((with_reducible fail_if_success first | constructor | show False); conv => whnf)
        refine Need.mk ((IsL.app (IsL.app (size := 2) (enc := wrE) (l := d.disk.cache) IsL.refl rfl (wr2 _ (w0 r) (CEq.refl _) (CEq.refl _))) (by simp) (wr2 _ (w1 r) (CEq.refl _) (CEq.refl _))).off.ceq (by simp)) ?_
        repeat' first | (with_reducible first | refine wkI ?_ | exact ⟨⟩ | refine wkB (fun _ => ?_) fun _ => ?_ | refine wkT (fun _ => ?_) ?_ | refine wkL ?_) | ((with_reducible refine wkC ?_ ?_); exact CEq.refl _) | ((with_reducible fail_if_success first | constructor | show False); conv => whnf)
      · rename_i g1 g2
        have g2 := of_decide_eq_true g2
        rw [if_pos (by omega)]
        repeat' first | (with_reducible first | refine wkI ?_ | exact ⟨⟩ | refine wkB (fun _ => ?_) fun _ => ?_ | refine wkT (fun _ => ?_) ?_ | refine wkL ?_) | ((with_reducible refine wkC ?_ ?_); exact CEq.refl _) | ((with_reducible fail_if_success first | constructor | show False); conv => whnf)
        refine Need.mk ((IsL.app (size := 2) (enc := wrE) (l := d.disk.cache) IsL.refl rfl (wr2 _ (w0 r) (CEq.refl _) (CEq.refl _))).off.ceq (by simp)) ?_
        repeat' first | (with_reducible first | refine wkI ?_ | exact ⟨⟩ | refine wkB (fun _ => ?_) fun _ => ?_ | refine wkT (fun _ => ?_) ?_ | refine wkL ?_) | ((with_reducible refine wkC ?_ ?_); exact CEq.refl _) | ((with_reducible fail_if_success first | constructor | show False); conv => whnf)
      · rename_i g1 g2
        rw [g2] at g1; cases g1
    · rename_i h3 h4 h5
      have h3 := of_decide_eq_false h3
      have h4 := of_decide_eq_true h4
      have h5 := of_decide_eq_false h5
      rw [if_neg h3, if_pos h4]
      obtain ⟨⟨p1, p2⟩, p3⟩ : (1 ≤ r.page ∧ r.page ≤ 16) ∧ r.data.length = 32 := by rcases hok with x | x | x <;> omega
      rw [putR_eq hd.1 hd.2 p3 p1 p2, if_neg (by omega)]
      repeat' first | (with_reducible first | refine wkI ?_ | exact ⟨⟩ | refine wkB (fun _ => ?_) fun _ => ?_ | refine wkT (fun _ => ?_) ?_ | refine wkL ?_) | ((with_reducible refine wkC ?_ ?_); exact CEq.refl _) | ((with_reducible fail_if_success first | constructor | show False); conv => whnf)
    · rename_i h3 h4
      have h3 := of_decide_eq_false h3
      have h4 := of_decide_eq_false h4
      rw [if_neg h3, if_neg h4, sync_ref hd.1]
      refine CallVC.mk' (fun _ => rsync_ok R.r d.disk S.k) (fun _ => .cons ((mC2 (by rfl))) .nil) ?_
      repeat' first | (with_reducible first | refine wkI ?_ | exact ⟨⟩ | refine wkB (fun _ => ?_) fun _ => ?_ | refine wkT (fun _ => ?_) ?_ | refine wkL ?_) | ((with_reducible refine wkC ?_ ?_); exact CEq.refl _) | ((with_reducible fail_if_success first | constructor | show False); conv => whnf)
end
end Lk.S04
namespace Lk.S04
open Go Lk Lk.C Lk.S03
def zz : List UInt8 := List.replicate 16 0
def z35 : List (List UInt8) := List.replicate 35 zz
def v0 : Dv := ⟨⟨z35, []⟩, 0, []⟩
def dt : List UInt8 := [48, 49, 50, 51, 52, 53, 54, 55, 56, 57, 97, 98, 99, 100, 101, 102, 48, 49, 50, 51, 52, 53, 54, 55, 56, 57, 65, 66, 67, 68, 69, 70]
def ra : Rq := ⟨0, 2, 1, dt⟩
def rb : Rq := ⟨1, 1, 1, []⟩
def v1 : Dv := ⟨⟨z35, []⟩, 1, [ra]⟩
def v2 : Dv := ⟨⟨z35, []⟩, 2, [ra, rb]⟩
def v3 : Dv := ⟨⟨z35, [⟨3, dt.take 16⟩, ⟨4, dt.drop 16⟩]⟩, 2, [rb]⟩
def v4 : Dv := ⟨⟨z35, [⟨3, dt.take 16⟩, ⟨4, dt.drop 16⟩]⟩, 2, []⟩
theorem new35 : newD 35 = ⟨z35, []⟩ := by decide +kernel
theorem new35E : newE 35 = 0 := by decide +kernel
theorem a1 : subm v0 2 1 dt = (v1, 0, 0) := by decide +kernel
theorem a2 : subm v1 1 1 [] = (v2, 1, 0) := by decide +kernel
theorem a3 : finD v2 0 false = (v3, ra, 0) := by decide +kernel
theorem a4 : finD v3 0 false = (v4, ⟨1, 1, 1, dt⟩, 0) := by decide +kernel
theorem sv0 : SmallV v0 := ⟨⟨by decide, by decide, by decide +kernel, by decide +kernel⟩, by decide, by decide +kernel⟩
theorem sv1 : SmallV v1 := ⟨⟨by decide, by decide, by decide +kernel, by decide +kernel⟩, by decide, by decide +kernel⟩
theorem sv2 : SmallV v2 := ⟨⟨by decide, by decide, by decide +kernel, by decide +kernel⟩, by decide, by decide +kernel⟩
theorem sv3 : SmallV v3 := ⟨⟨by decide, by decide, by decide +kernel, by decide +kernel⟩, by decide, by decide +kernel⟩
section
variable {P : Program} {F : Nat → Nat}
structure KLV (P : Program) (F : Nat → Nat) : Prop where
  k : KDev P F
  r : KRV P F
  new : law04_New_k P F
  awake : law04_awake_k P F
theorem new_ok (K : KDev P F) (hk : law04_New_k P F) : FnOk P (F 172) [] [.many 4 (fun j => .im (dvE v0 j))] := by
  refine fnOk K.k.m hk ?_
  repeat' first | (with_reducible first | refine wkI ?_ | exact ⟨⟩ | refine wkB (fun _ => ?_) fun _ => ?_ | refine wkT (fun _ => ?_) ?_ | refine wkL ?_) | ((with_reducible refine wkC ?_ ?_); exact CEq.refl _) | ((with_reducible fail_if_success first | constructor | show False); conv => whnf)
  refine CallVC.mk' (fun _ => S03.new_ok K.k.m K.k.new 35 K.k.rep) (fun _ => .cons (.one (CEq.refl _)) .nil) ?_
  rw [new35, new35E]
  repeat' first | (with_reducible first | refine wkI ?_ | exact ⟨⟩ | refine wkB (fun _ => ?_) fun _ => ?_ | refine wkT (fun _ => ?_) ?_ | refine wkL ?_) | ((with_reducible refine wkC ?_ ?_); exact CEq.refl _) | ((with_reducible fail_if_success first | constructor | show False); conv => whnf)
  refine Need.mk ceq_nil ?_
  repeat' first | (with_reducible first | refine wkI ?_ | exact ⟨⟩ | refine wkB (fun _ => ?_) fun _ => ?_ | refine wkT (fun _ => ?_) ?_ | refine wkL ?_) | ((with_reducible refine wkC ?_ ?_); exact CEq.refl _) | ((with_reducible fail_if_success first | constructor | show False); conv => whnf)
theorem awake_ok (L : KLV P F) : FnOk P (F 167) [] [.one (.im (.bool true))] := by
  have K := L.k
  refine fnOk K.k.m L.awake ?_
  repeat' first | (with_reducible first | refine wkI ?_ | exact ⟨⟩ | refine wkB (fun _ => ?_) fun _ => ?_ | refine wkT (fun _ => ?_) ?_ | refine wkL ?_) | ((with_reducible refine wkC ?_ ?_); exact CEq.refl _) | ((with_reducible fail_if_success first | constructor | show False); conv => whnf)
  refine CallVC.mk' (fun _ => new_ok K L.new) (fun _ => .nil) ?_
  repeat' first | (with_reducible first | refine wkI ?_ | exact ⟨⟩ | refine wkB (fun _ => ?_) fun _ => ?_ | refine wkT (fun _ => ?_) ?_ | refine wkL ?_) | ((with_reducible refine wkC ?_ ?_); exact CEq.refl _) | ((with_reducible fail_if_success first | constructor | show False); conv => whnf)
  refine CallVC.mk' (fun _ => submit_ok K v0 2 1 dt sv0 (by decide)) (fun _ => .cons ((mC4 (by rfl))) (.cons (.one (CEq.refl _)) (.cons (.one (CEq.refl _)) (.cons (.one (CEq.refl _)) .nil)))) ?_
  rw [a1]
  repeat' first | (with_reducible first | refine wkI ?_ | exact ⟨⟩ | refine wkB (fun _ => ?_) fun _ => ?_ | refine wkT (fun _ => ?_) ?_ | refine wkL ?_) | ((with_reducible refine wkC ?_ ?_); exact CEq.refl _) | ((with_reducible fail_if_success first | constructor | show False); conv => whnf)
  refine CallVC.mk' (fun _ => submit_ok K v1 1 1 [] sv1 (by decide)) (fun _ => .cons ((mC4 (by rfl))) (.cons (.one (CEq.refl _)) (.cons (.one (CEq.refl _)) (.cons (.one (CEq.refl _)) .nil)))) ?_
  rw [a2]
  repeat' first | (with_reducible first | refine wkI ?_ | exact ⟨⟩ | refine wkB (fun _ => ?_) fun _ => ?_ | refine wkT (fun _ => ?_) ?_ | refine wkL ?_) | ((with_reducible refine wkC ?_ ?_); exact CEq.refl _) | ((with_reducible fail_if_success first | constructor | show False); conv => whnf)
  refine CallVC.mk' (fun _ => finish_ok K v2 0 false sv2) (fun _ => .cons ((mC4 (by rfl))) (.cons (.one (CEq.refl _)) (.cons (.one (CEq.refl _)) .nil))) ?_
  rw [a3]
  repeat' first | (with_reducible first | refine wkI ?_ | exact ⟨⟩ | refine wkB (fun _ => ?_) fun _ => ?_ | refine wkT (fun _ => ?_) ?_ | refine wkL ?_) | ((with_reducible refine wkC ?_ ?_); exact CEq.refl _) | ((with_reducible fail_if_success first | constructor | show False); conv => whnf)
  refine CallVC.mk' (fun _ => finish_ok K v3 0 false sv3) (fun _ => .cons ((mC4 (by rfl))) (.cons (.one (CEq.refl _)) (.cons (.one (CEq.refl _)) .nil))) ?_
  rw [a4]
  repeat' first | (with_reducible first | refine wkI ?_ | exact ⟨⟩ | refine wkB (fun _ => ?_) fun _ => ?_ | refine wkT (fun _ => ?_) ?_ | refine wkL ?_) | ((with_reducible refine wkC ?_ ?_); exact CEq.refl _) | ((with_reducible fail_if_success first | constructor | show False); conv => whnf)
end
theorem SmallV.wf {d : Dv} (S : SmallV d) (hn : rng .i64 d.next) : EDv.wf d :=
  ⟨⟨Nat.le_trans S.k.s (by decide), Nat.le_trans S.k.c (by decide), fun s hs => Nat.le_trans (S.k.ls s hs) (by decide), fun w hw => Nat.le_trans (S.k.lc w hw) (by decide)⟩, hn, Nat.le_trans S.f (by decide), fun r hr => Nat.le_trans (S.lf r hr) (by decide)⟩
theorem refOk_of {d : Dv} (h1 : tiny d.disk) (h2 : d.flight.length ≤ 20) (h3 : ∀ r ∈ d.flight, r.data.length ≤ 100) : refOk d :=
  ⟨⟨h1, h2⟩, fstN_eq (Nat.le_refl _) (fun j hj => decide_eq_false (by have := h3 _ (getD_mem hj); omega)) (fun x => by omega)⟩
theorem refOk.data {d : Dv} (h : refOk d) : ∀ r ∈ d.flight, r.data.length ≤ 100 := all_of_getD fun i hi => by
  have := fstN_ahead (p := refB d) (n := d.flight.length) (j := i) (by rw [h.2]; exact hi)
  have := of_decide_eq_false this; omega
theorem refOk.subm {d : Dv} {k p : Int} {s : List UInt8} (h : refOk d) (hs : s.length ≤ 100) : refOk (subm d k p s).1 := by
  unfold S04.subm
  split
  · exact h
  · split
    · exact h
    · rename_i h1 h2
      refine refOk_of h.1.1 (by simp; omega) fun r hr => ?_
      rcases List.mem_append.1 hr with hr | hr
      · exact h.data r hr
      · rw [List.mem_singleton.1 hr]; exact hs
section
variable {P : Program} {F : Nat → Nat}
end
end Lk.S04
namespace Lk.S04
open Go Lk Lk.C Lk.S03
theorem right.tiny {d : Dsk} (h : right d) : tiny d := ⟨by have := h.2.1; omega, by have := h.2.2.1; omega, fun s hs => by have := h.2.2.2.1 s hs; omega, fun w hw => by have := (h.2.2.2.2 w hw).2.2; omega⟩
theorem mem_without {l : List Rq} {i : Nat} {r : Rq} (h : r ∈ without l i) : r ∈ l := by
  unfold without at h
  rcases List.mem_append.1 h with h | h
  · exact List.mem_of_mem_take h
  · exact List.mem_of_mem_drop h
theorem without_len {l : List Rq} {i : Nat} (hi : i < l.length) : (without l i).length = l.length - 1 := by unfold without; simp; omega
theorem right_putR {d : Dsk} {r : Rq} (h : right d) : right (putR d r).1 := by
  unfold putR
  split
  · exact h
  · split
    · exact h.put
    · exact h.put.put
theorem putR_len {d : Dsk} {r : Rq} : (putR d r).1.secs.length = d.secs.length := by
  have hp : ∀ (d : Dsk) (w : Wr), (d.put w).secs.length = d.secs.length := fun d w => by unfold Dsk.put; split <;> rfl
  unfold putR
  split
  · rfl
  · split
    · exact hp _ _
    · exact (hp _ _).trans (hp _ _)
theorem fin_yes {d : Dv} {i : Int} {fault : Bool} (h : ¬ finNo d i) : ∃ a : Nat, i = a ∧ a < d.flight.length ∧ rightV d ∧ (finD d i fault).1.next = d.next ∧ (finD d i fault).1.flight = without d.flight a ∧ right (finD d i fault).1.disk ∧ (finD d i fault).1.disk.secs.length = d.disk.secs.length := by
  have hv : rightV d := Classical.byContradiction fun x => h (.inl x)
  have ha0 : 0 ≤ i := by have : ¬ i < 0 := fun x => h (.inr (.inl x)); omega
  obtain ⟨a, rfl⟩ : ∃ a : Nat, i = a := ⟨i.toNat, by omega⟩
  have ha : a < d.flight.length := by have : ¬ (d.flight.length : Int) ≤ a := fun x => h (.inr (.inr x)); omega
  refine ⟨a, rfl, ha, hv, ?_⟩
  unfold finD
  rw [if_neg h, Int.toNat_natCast]
  split
  · exact ⟨rfl, rfl, hv.1.1, rfl⟩
  · unfold fin1
    split
    · exact ⟨rfl, rfl, hv.1.1, rfl⟩
    · split
      · exact ⟨rfl, rfl, right_putR hv.1.1, putR_len⟩
      · exact ⟨rfl, rfl, hv.1.1.sync, by show d.disk.sync.secs.length = _; unfold Dsk.sync; rw [if_pos hv.1.1]; exact wrS_len⟩
theorem okF_without {n : Int} {l : List Rq} {a : Nat} (h : ∀ i, i < l.length → okAt n l i) (ha : a < l.length) : ∀ i, i < (without l a).length → okAt n (without l a) i := by
  have hp := fun {i : Nat} (hi : i ≤ l.length) => ok_pos (i := i) (fun k hk => h k (by omega))
  have hl : (l.take a).length = a := by rw [List.length_take]; omega
  have g1 : ∀ i, i < a → (without l a).getD i default = l.getD i default := fun i hi => by
    unfold without
    rw [List.getD_eq_getElem?_getD, List.getElem?_append_left (by omega), List.getElem?_take_of_lt hi, ← List.getD_eq_getElem?_getD]
  have g2 : ∀ i, a ≤ i → (without l a).getD i default = l.getD (i + 1) default := fun i hi => by
    unfold without
    rw [List.getD_eq_getElem?_getD, List.getElem?_append_right (by omega), hl, List.getElem?_drop, ← List.getD_eq_getElem?_getD]
    congr 1; omega
  intro i hi
  rw [without_len ha] at hi
  unfold okAt ahead
  by_cases h1 : i < a
  · rw [g1 i h1]
    by_cases h0 : i = 0
    · subst h0
      exact h 0 (by omega)
    · rw [if_neg h0, g1 (i - 1) (by omega)]
      have := h i (by omega)
      unfold okAt ahead at this
      rw [if_neg h0] at this
      exact this
  · rw [g2 i (by omega)]
    have h3 := h (i + 1) (by omega)
    unfold okAt ahead at h3
    rw [if_neg (by omega), Nat.add_sub_cancel] at h3
    refine ⟨?_, h3.2⟩
    by_cases h0 : i = 0
    · rw [if_pos h0]
      have := hp (Nat.le_refl _) (i + 1) (by omega); omega
    · rw [if_neg h0]
      by_cases h2 : a ≤ i - 1
      · rw [g2 (i - 1) h2, show i - 1 + 1 = i by omega]; exact h3.1
      · rw [g1 (i - 1) (by omega)]
        have h4 := (h i (by omega)).1
        unfold ahead at h4
        rw [if_neg h0] at h4
        have := h3.1; omega
theorem fin_right {d : Dv} {i : Int} {fault : Bool} (h : ¬ finNo d i) : rightV (finD d i fault).1 := by
  obtain ⟨a, rfl, ha, hv, e1, e2, e3, e4⟩ := fin_yes (fault := fault) h
  refine ⟨⟨e3, by rw [e4]; exact hv.1.2⟩, ⟨by rw [e1]; exact hv.2.1.1, by rw [e1]; exact hv.2.1.2.1, by rw [e2, without_len ha]; have := hv.2.1.2.2; omega⟩, ?_⟩
  rw [e1, e2]
  exact okF_without hv.2.2 ha
theorem refOk.fin {d : Dv} {i : Int} {fault : Bool} (h : refOk d) : refOk (finD d i fault).1 := by
  by_cases hn : finNo d i
  · rw [show finD d i fault = (d, ⟨0, 0, 0, []⟩, 1) from if_pos hn]; exact h
  · obtain ⟨a, rfl, ha, hv, e1, e2, e3, e4⟩ := fin_yes (fault := fault) hn
    exact refOk_of (right.tiny e3) (by rw [e2, without_len ha]; have := h.1.2; omega) fun r hr => h.data r (mem_without (by rw [← e2]; exact hr))
theorem fin_next {d : Dv} {i : Int} {fault : Bool} : (finD d i fault).1.next = d.next := by
  by_cases hn : finNo d i
  · rw [show finD d i fault = (d, ⟨0, 0, 0, []⟩, 1) from if_pos hn]
  · obtain ⟨a, rfl, ha, hv, e1, e2, e3, e4⟩ := fin_yes (fault := fault) hn
    exact e1
theorem refOk.crash {d : Dv} {keep : List Int} (h : refOk d) : refOk (crashV d keep) := by
  unfold crashV
  split
  · rename_i hv
    exact refOk_of (right.tiny hv.1.1.crash) (by simp) (fun r hr => by cases hr)
  · exact h
theorem fin_told {d : Dv} {a : Nat} (h : ¬ finNo d a) : (finD d a false).2.1.ticket = (d.flight.getD a default).ticket ∧ (finD d a false).2.1.page = (d.flight.getD a default).page ∧ (finD d a false).2.1.kind = (d.flight.getD a default).kind ∧
    ((d.flight.getD a default).kind = 1 → (finD d a false).1.disk = d.disk ∧ (finD d a false).2.2 = 0 ∧ (finD d a false).2.1.data = two d.disk (d.flight.getD a default).page) ∧
    ((d.flight.getD a default).kind ≠ 1 → (finD d a false).2.1.data = (d.flight.getD a default).data) ∧
    ((d.flight.getD a default).kind = 2 → (finD d a false).1.disk = (putR d.disk (d.flight.getD a default)).1 ∧ (finD d a false).2.2 = (putR d.disk (d.flight.getD a default)).2) ∧
    ((d.flight.getD a default).kind = 3 → (finD d a false).1.disk = d.disk.sync ∧ (finD d a false).2.2 = 0) := by
  unfold finD
  rw [if_neg h, Int.toNat_natCast]
  unfold fin1
  generalize d.flight.getD a default = r
  by_cases h1 : r.kind = 1
  · simp [h1]
  · by_cases h2 : r.kind = 2
    · simp [h2]
    · simp [h1, h2]
theorem fin_fault {d : Dv} {a : Nat} (h : ¬ finNo d a) : finD d a true = (⟨d.disk, d.next, without d.flight a⟩, d.flight.getD a default, 8) := by
  unfold finD
  rw [if_neg h, Int.toNat_natCast]
  rfl
theorem rightV.small {d : Dv} (h : rightV d) : SmallV d :=
  ⟨S03.right.small h.1.1, by have := h.2.1.2.2; omega, all_of_getD fun i hi => by
    rcases (h.2.2 i hi).2.2 with x | x | x <;> omega⟩
theorem rightV.rng {d : Dv} (h : rightV d) : rng .i64 d.next := by have := h.2.1; simp only [Lk.rng]; omega
theorem fin_ticket {d : Dv} {a : Nat} {fault : Bool} (h : ¬ finNo d a) : (finD d a fault).2.1.ticket = (d.flight.getD a default).ticket := by
  cases fault with
  | true => rw [fin_fault h]
  | false => exact (fin_told h).1
section
variable {P : Program} {F : Nat → Nat}
end
end Lk.S04
namespace Lk.S04
open Go Lk Lk.C Lk.S03
structure Inv (i : Nat) (d : Dv) (told : Nat → Bool) (last : Nat → List UInt8) : Prop where
  r : rightV d
  len : d.disk.secs.length = 35
  n : d.next ≤ i
  c : d.disk.cache.length ≤ 2 * i
  t : ∀ r ∈ d.flight, told r.ticket.toNat = false
  p : ∀ r ∈ d.flight, r.page ≤ 4
  l : ∀ p : Nat, 1 ≤ p → p ≤ 4 → last p = [] ∨ two d.disk p = last p
theorem two_put {d : Dsk} {r : Rq} {p : Nat} (h : right d) (h35 : d.secs.length = 35) (hc : d.cache.length < 199) (hl : r.data.length = 32) (hp1 : 1 ≤ r.page) (hp2 : r.page ≤ 16) (h1 : 1 ≤ p) (h2 : p ≤ 4) :
    two (putR d r).1 p = if r.page = p then r.data else two d p := by
  obtain ⟨f0, f1⟩ := fits_w h (by omega) hl hp1 hp2
  have e0 : d.putE (w0 r) = 0 := by unfold Dsk.putE; rw [if_pos ⟨h, f0⟩, if_pos (by omega)]
  have hr : right (d.put (w0 r)) := h.put
  have p0 := put_fit h f0 (by omega)
  have f1' : fits (d.put (w0 r)) (w1 r) := by rw [p0]; exact f1
  have hcl : (d.put (w0 r)).cache.length = d.cache.length + 1 := by rw [p0]; simp
  have e1 : (d.put (w0 r)).putE (w1 r) = 0 := by unfold Dsk.putE; rw [if_pos ⟨hr, f1'⟩, if_pos (by omega)]
  have hR : (putR d r).1 = (d.put (w0 r)).put (w1 r) := by unfold putR; rw [if_neg (by rw [e0]; simp), if_neg (by rw [e1]; simp)]
  have hr2 : right ((d.put (w0 r)).put (w1 r)) := hr.put
  have l2 : ((d.put (w0 r)).put (w1 r)).secs.length = 35 := by rw [put_len, put_len, h35]
  have hread : ∀ k : Nat, ((d.put (w0 r)).put (w1 r)).read k = if (k : Int) = hm r.page + 1 then r.data.drop 16 else if (k : Int) = hm r.page then r.data.take 16 else d.read k := fun k => by
    rw [read_put hr, read_put h, e0, e1]
    by_cases a : (k : Int) = hm r.page + 1
    · rw [if_pos a, if_pos ⟨rfl, a⟩]; rfl
    · rw [if_neg a, if_neg (fun x => a x.2)]
      by_cases b : (k : Int) = hm r.page
      · rw [if_pos b, if_pos ⟨rfl, b⟩]; rfl
      · rw [if_neg b, if_neg (fun x => b x.2)]
  have htwo : ∀ d' : Dsk, right d' → d'.secs.length = 35 → two d' p = d'.read (2 * p + 1) ++ d'.read (2 * p + 2) := fun d' h' hl' => by
    unfold two hm
    rw [show 2 * (p : Int) + 1 = ((2 * p + 1 : Nat) : Int) by omega, show ((2 * p + 1 : Nat) : Int) + 1 = ((2 * p + 2 : Nat) : Int) by omega, S04.rd_in h' (by omega), S04.rd_in h' (by omega)]
  rw [hR, htwo _ hr2 l2, htwo d h h35, hread, hread]
  unfold hm
  by_cases e : r.page = p
  · rw [if_pos e, if_neg (by omega), if_pos (by omega), if_pos (by omega), List.take_append_drop]
  · rw [if_neg e, if_neg (by omega), if_neg (by omega), if_neg (by omega), if_neg (by omega)]
theorem two_sync {d : Dsk} {p : Nat} (h : right d) (h35 : d.secs.length = 35) (h1 : 1 ≤ p) (h2 : p ≤ 4) : two d.sync p = two d p := by
  unfold two hm
  rw [show 2 * (p : Int) + 1 = ((2 * p + 1 : Nat) : Int) by omega, show ((2 * p + 1 : Nat) : Int) + 1 = ((2 * p + 2 : Nat) : Int) by omega, S04.rd_in h.sync (by rw [sync_len h]; omega), S04.rd_in h.sync (by rw [sync_len h]; omega), S04.rd_in h (by omega), S04.rd_in h (by omega),
    read_sync h (by omega), read_sync h (by omega)]
theorem put_ok0 {d : Dsk} {r : Rq} (h : right d) (h35 : d.secs.length = 35) (hc : d.cache.length < 199) (hl : r.data.length = 32) (hp1 : 1 ≤ r.page) (hp2 : r.page ≤ 16) : (putR d r).2 = 0 ∧ (putR d r).1.cache.length = d.cache.length + 2 := by
  rw [putR_eq h (by omega) hl hp1 hp2, if_pos (by omega), if_neg (by omega)]
  simp
theorem Inv.zero : Inv 0 v0 (fun _ => false) (fun _ => []) :=
  ⟨by decide +kernel, by decide +kernel, by decide, by decide, fun _ _ => rfl, fun r hr => (by cases hr), fun _ _ _ => .inl rfl⟩
theorem Inv.succ {i : Nat} {d : Dv} {told : Nat → Bool} {last : Nat → List UInt8} (h : Inv i d told last) : Inv (i + 1) d told last := { h with n := by have := h.n; omega, c := by have := h.c; omega }
theorem sub_yes {d : Dv} {k p : Int} {s : List UInt8} (h : rightV d) (hn : d.next < 2147483647) (hm : may k p s) :
    subm d k p s = if 4 ≤ d.flight.length then (d, 0, 6) else (⟨d.disk, d.next + 1, d.flight ++ [⟨d.next, k, p, s⟩]⟩, d.next, 0) := by
  unfold subm
  rw [if_neg (fun x => by rcases x with x | x | x; exact x h; omega; exact x hm)]
theorem okAt_app {n : Int} {l : List Rq} {r : Rq} (h : ∀ i, i < l.length → okAt n l i) (h0 : 0 ≤ n) (ht : r.ticket = n) (hm : may r.kind r.page r.data) : ∀ i, i < (l ++ [r]).length → okAt (n + 1) (l ++ [r]) i := by
  intro i hi
  rw [List.length_append] at hi
  have hi : i < l.length + 1 := hi
  have g : ∀ j, j < l.length → (l ++ [r]).getD j default = l.getD j default := fun j hj => by
    rw [List.getD_eq_getElem?_getD, List.getElem?_append_left hj, ← List.getD_eq_getElem?_getD]
  by_cases hl : i < l.length
  · have := h i hl
    unfold okAt ahead at this ⊢
    rw [g i hl]
    refine ⟨?_, by have := this.2.1; omega, this.2.2⟩
    by_cases e : i = 0
    · rw [if_pos e] at this ⊢; exact this.1
    · rw [if_neg e] at this ⊢; rw [g (i - 1) (by omega)]; exact this.1
  · obtain rfl : i = l.length := by omega
    unfold okAt ahead
    rw [show (l ++ [r]).getD l.length default = r by rw [List.getD_eq_getElem?_getD, List.getElem?_append_right (Nat.le_refl _), Nat.sub_self]; rfl]
    refine ⟨?_, by omega, hm⟩
    by_cases e : l.length = 0
    · rw [if_pos e]; omega
    · rw [if_neg e, g (l.length - 1) (by omega)]
      have := (h (l.length - 1) (by omega)).2.1
      omega
theorem sub_right {d : Dv} {k p : Int} {s : List UInt8} (h : rightV d) (hn : d.next < 2147483647) (hm : may k p s) (hl : d.flight.length < 4) : rightV ⟨d.disk, d.next + 1, d.flight ++ [⟨d.next, k, p, s⟩]⟩ :=
  ⟨h.1, ⟨by show 0 ≤ d.next + 1; have := h.2.1.1; omega, by show d.next + 1 ≤ _; omega, by show (d.flight ++ [_]).length ≤ 4; rw [List.length_append]; show _ + 1 ≤ 4; omega⟩, okAt_app h.2.2 h.2.1.1 rfl hm⟩
theorem Inv.submit {i : Nat} {d : Dv} {told : Nat → Bool} {last : Nat → List UInt8} {k p : Int} {s : List UInt8} (h : Inv i d told last) (hi : i < 60) (ht : ∀ t : Nat, d.next ≤ t → told t = false) (hm : may k p s) (hp : p ≤ 4) :
    Inv (i + 1) (subm d k p s).1 told last ∧ (subm d k p s).1.next = (if (subm d k p s).2.2 = 0 then d.next + 1 else d.next) ∧ ((subm d k p s).2.2 = 0 ↔ d.flight.length < 4) ∧ ((subm d k p s).2.2 = 0 → (subm d k p s).2.1 = d.next) := by
  have hn : d.next < 2147483647 := by have := h.n; omega
  rw [sub_yes h.r hn hm]
  by_cases hl : 4 ≤ d.flight.length
  · rw [if_pos hl]
    exact ⟨h.succ, by simp, ⟨fun x => absurd (show (6 : Int) = 0 from x) (by decide), fun x => by omega⟩, fun x => absurd (show (6 : Int) = 0 from x) (by decide)⟩
  · rw [if_neg hl]
    refine ⟨⟨sub_right h.r hn hm (by omega), h.len, by show d.next + 1 ≤ ((i + 1 : Nat) : Int); have := h.n; omega, by show d.disk.cache.length ≤ _; have := h.c; omega, fun r hr => ?_, fun r hr => ?_, h.l⟩, by simp, ⟨fun _ => by omega, fun _ => rfl⟩, fun _ => rfl⟩
    · rcases List.mem_append.1 hr with hr | hr
      · exact h.t r hr
      · rw [List.mem_singleton.1 hr]
        exact ht d.next.toNat (by have := h.r.2.1.1; omega)
    · rcases List.mem_append.1 hr with hr | hr
      · exact h.p r hr
      · rw [List.mem_singleton.1 hr]; exact hp
theorem ticket_lt {n : Int} {l : List Rq} (h : ∀ i, i < l.length → okAt n l i) {i j : Nat} (hij : i < j) (hj : j < l.length) : (l.getD i default).ticket < (l.getD j default).ticket := by
  induction j with
  | zero => omega
  | succ j ih =>
    have h1 := (h (j + 1) hj).1
    unfold ahead at h1
    rw [if_neg (by omega), Nat.add_sub_cancel] at h1
    by_cases e : i = j
    · rw [e]; exact h1
    · have := ih (by omega) (by omega); omega
theorem ticket_ne {n : Int} {l : List Rq} (h : ∀ i, i < l.length → okAt n l i) {a : Nat} (ha : a < l.length) : ∀ r ∈ without l a, r.ticket ≠ (l.getD a default).ticket := by
  intro r hr
  unfold without at hr
  rcases List.mem_append.1 hr with hr | hr
  · obtain ⟨k, hk, rfl⟩ := List.mem_iff_getElem.1 hr
    rw [List.length_take] at hk
    have := ticket_lt h (i := k) (j := a) (by omega) ha
    rw [getD_eq (show k < l.length by omega)] at this
    rw [List.getElem_take]; omega
  · obtain ⟨k, hk, rfl⟩ := List.mem_iff_getElem.1 hr
    rw [List.length_drop] at hk
    have := ticket_lt h (i := a) (j := a + 1 + k) (by omega) (by omega)
    rw [getD_eq (show a + 1 + k < l.length by omega)] at this
    rw [List.getElem_drop]; omega
theorem Inv.finish {i : Nat} {d : Dv} {told : Nat → Bool} {last : Nat → List UInt8} {a : Nat} {fault : Bool} (h : Inv i d told last) (hi : i < 60) (ha : a < d.flight.length) :
    ((finD d a fault).1.next = d.next ∧ (finD d a fault).2.1.ticket = (d.flight.getD a default).ticket ∧ 0 ≤ (finD d a fault).2.1.ticket ∧ (finD d a fault).2.1.ticket < d.next ∧ told (finD d a fault).2.1.ticket.toNat = false ∧
      ((finD d a fault).2.2 = if fault then 8 else 0) ∧ 0 ≤ (finD d a fault).2.1.page ∧ (finD d a fault).2.1.page ≤ 4) ∧
    (fault = false → (finD d a fault).2.1.kind = 1 → last (finD d a fault).2.1.page.toNat ≠ [] → (finD d a fault).2.1.data = last (finD d a fault).2.1.page.toNat) ∧
    Inv (i + 1) (finD d a fault).1 (fun t => if t = (finD d a fault).2.1.ticket.toNat then true else told t) (fun p => if fault = false ∧ (finD d a fault).2.1.kind = 2 ∧ p = (finD d a fault).2.1.page.toNat then (finD d a fault).2.1.data else last p) := by
  have hno : ¬ finNo d a := by
    rintro (x | x | x)
    · exact x h.r
    · omega
    · omega
  obtain ⟨a', e0, -, -, g1, g2, g3, g4⟩ := fin_yes (fault := fault) hno
  obtain rfl : a = a' := by omega
  have ft : (finD d a fault).2.1.ticket = (d.flight.getD a default).ticket := fin_ticket hno
  have hk := h.r.2.2 a ha
  have hpos := ok_pos (fun k hk' => h.r.2.2 k hk') a ha
  have hmem := getD_mem ha
  have hmy := hk.2.2
  have hpg := h.p _ hmem
  have hcl := h.c
  have hpp : (finD d a fault).2.1.page = (d.flight.getD a default).page := by
    cases fault with
    | true => rw [fin_fault hno]
    | false => exact (fin_told hno).2.1
  have hkk : (finD d a fault).2.1.kind = (d.flight.getD a default).kind := by
    cases fault with
    | true => rw [fin_fault hno]
    | false => exact (fin_told hno).2.2.1
  have htn := ticket_ne h.r.2.2 ha
  have hd := h.r.1.1
  have nx : ∀ told' : Nat → Bool, (∀ t, t ≠ (d.flight.getD a default).ticket.toNat → told' t = told t) → ∀ r ∈ (finD d a fault).1.flight, told' r.ticket.toNat = false := fun told' ht r hr => by
    rw [g2] at hr
    have hne := htn r hr
    have hr' := mem_without hr
    have hr0 : 0 ≤ r.ticket := by
      obtain ⟨k, hk, rfl⟩ := List.mem_iff_getElem.1 hr'
      have := ok_pos (fun k hk' => h.r.2.2 k hk') k hk
      rw [getD_eq hk] at this; exact this
    rw [ht _ (by omega)]
    exact h.t r hr'
  have pg : ∀ r ∈ (finD d a fault).1.flight, r.page ≤ 4 := fun r hr => h.p r (mem_without (by rw [← g2]; exact hr))
  have ct : ∀ told' : Nat → Bool, (∀ t, t ≠ (d.flight.getD a default).ticket.toNat → told' t = told t) → ∀ last', (finD d a fault).1.disk.cache.length ≤ 2 * (i + 1) → (∀ p : Nat, 1 ≤ p → p ≤ 4 → last' p = [] ∨ two (finD d a fault).1.disk p = last' p) → Inv (i + 1) (finD d a fault).1 told' last' := fun told' ht last' hc hl =>
    ⟨fin_right hno, g4.trans h.len, by rw [g1]; have := h.n; omega, hc, nx told' ht, pg, hl⟩
  have pr : 0 ≤ (d.flight.getD a default).page := by rcases hmy with x | x | x <;> omega
  have errE : (finD d a fault).2.2 = if fault then 8 else 0 := by
    cases fault with
    | true => rw [fin_fault hno]; rfl
    | false =>
      obtain ⟨-, -, -, f1, -, f3, f4⟩ := fin_told hno
      rcases hmy with ⟨x, -⟩ | ⟨x, y, z⟩ | ⟨x, -⟩
      · exact (f1 x).2.1
      · rw [(f3 x).2]; exact (put_ok0 hd h.len (by omega) z y.1 y.2).1
      · exact (f4 x).2
  refine ⟨⟨g1, ft, by rw [ft]; exact hpos, by rw [ft]; exact hk.2.1, by rw [ft]; exact h.t _ hmem, errE, by rw [hpp]; exact pr, by rw [hpp]; exact hpg⟩, fun hf hk1 hne => ?_, ct _ (fun t ht => by rw [ft]; exact if_neg ht) _ ?_ fun p h1 h2 => ?_⟩
  · subst hf
    obtain ⟨-, -, -, f1, -⟩ := fin_told hno
    rw [hkk] at hk1
    rw [(f1 hk1).2.2, hpp]
    rw [hpp] at hne
    have : 1 ≤ (d.flight.getD a default).page := by rcases hmy with x | x | x <;> omega
    rcases h.l (d.flight.getD a default).page.toNat (by omega) (by omega) with e | e
    · exact absurd e hne
    · rw [← e, Int.toNat_of_nonneg pr]
  · cases fault with
    | true => rw [fin_fault hno]; show d.disk.cache.length ≤ _; omega
    | false =>
      obtain ⟨-, -, -, f1, -, f3, f4⟩ := fin_told hno
      rcases hmy with ⟨x, -⟩ | ⟨x, y, z⟩ | ⟨x, -⟩
      · rw [(f1 x).1]; omega
      · rw [(f3 x).1, (put_ok0 hd h.len (by omega) z y.1 y.2).2]; omega
      · rw [(f4 x).1, sync_cache hd]; simp
  · rw [hkk, hpp]
    cases fault with
    | true =>
      rw [if_neg (by simp), fin_fault hno]
      exact h.l p h1 h2
    | false =>
      obtain ⟨-, -, -, f1, f2, f3, f4⟩ := fin_told hno
      rcases hmy with ⟨x, -⟩ | ⟨x, y, z⟩ | ⟨x, -⟩
      · rw [if_neg (by omega), (f1 x).1]
        exact h.l p h1 h2
      · rw [(f3 x).1, two_put hd h.len (by omega) z y.1 y.2 h1 h2]
        by_cases e : (d.flight.getD a default).page = p
        · rw [if_pos ⟨rfl, x, by omega⟩, if_pos e, f2 (by omega)]
          exact .inr rfl
        · rw [if_neg (by omega), if_neg e]
          exact h.l p h1 h2
      · rw [if_neg (by omega), (f4 x).1, two_sync hd h.len h1 h2]
        exact h.l p h1 h2
end Lk.S04
