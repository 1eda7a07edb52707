/-
  Gs06a: what these chapters need.
-/
import Derived.Test.YtaijfhomokkpeaaCCa
import Derived.Test.YtaijfhomokkpeaaGs04a
import Derived.Test.YtaijfhomokkpeaaGs05a
import Derived.Test.YtaijfhomokkpeaaGs05b
set_option linter.unusedSimpArgs false
set_option maxHeartbeats 8000000
set_option maxRecDepth 100000
set_option linter.unusedVariables false
namespace Lk.S06
open Go Lk Lk.C Lk.S03 Lk.S04
structure Jb where
  who : Int
  kind : Int
  page : Int
  data : List UInt8
  tries : Int
deriving DecidableEq
instance : Inhabited Jb := ⟨⟨0, 0, 0, [], 0⟩⟩
structure Sd where
  lanes : S05.Ls
  jobs : List (List Jb)
  dev : Dv
  out : List Jb
deriving DecidableEq
def jbE (x : Jb) (j : Nat) : Cell :=
  match j with
  | 0 => .int .i64 x.who
  | 1 => .int .i64 x.kind
  | 2 => .int .i64 x.page
  | 3 => .str x.data
  | _ => .int .i64 x.tries
def jlE (l : List Jb) (_ : Nat) : Cell := slL 5 jbE l
def sdE (s : Sd) (j : Nat) : Cell :=
  match j with
  | 0 => slL 3 S05.lnE s.lanes.list
  | 1 => .int .i64 s.lanes.at_
  | 2 => .bool s.lanes.given
  | 3 => slL 1 jlE s.jobs
  | 4 => slL 1 strE s.dev.disk.secs
  | 5 => slL 2 wrE s.dev.disk.cache
  | 6 => .int .i64 s.dev.next
  | 7 => slL 4 rqE s.dev.flight
  | _ => slL 5 jbE s.out
def cost (k : Int) : Int := if k = 1 then 2 else if k = 2 then 4 else if k = 3 then 1 else 0
def jobOk (x : Jb) : Prop := may x.kind x.page x.data
instance (x : Jb) : Decidable (jobOk x) := by unfold jobOk; infer_instance
def okJ (i : Nat) (c : List Int) (l : List Jb) : Prop := l.length = c.length ∧ ∀ k, k < l.length → (jobOk (l.getD k default) ∧ cost (l.getD k default).kind = c.getD k default) ∧ (l.getD k default).who = i ∧ (l.getD k default).tries = 0
instance (i : Nat) (c : List Int) (l : List Jb) : Decidable (okJ i c l) := by unfold okJ; infer_instance
def okO (n : Nat) (x : Jb) (r : Rq) : Prop := (x.kind = r.kind ∧ x.page = r.page ∧ x.data = r.data) ∧ (0 ≤ x.who ∧ x.who < n) ∧ 1 ≤ x.tries ∧ x.tries ≤ 3
instance (n : Nat) (x : Jb) (r : Rq) : Decidable (okO n x r) := by unfold okO; infer_instance
def rightS (s : Sd) : Prop := (S05.right s.lanes ∧ rightV s.dev) ∧ (s.jobs.length = s.lanes.list.length ∧ s.out.length = s.dev.flight.length) ∧
  (∀ i, i < s.jobs.length → okJ i (s.lanes.list.getD i default).costs (s.jobs.getD i default)) ∧ ∀ i, i < s.out.length → okO s.jobs.length (s.out.getD i default) (s.dev.flight.getD i default)
instance (s : Sd) : Decidable (rightS s) := by unfold rightS; infer_instance
structure SmallS (s : Sd) : Prop where
  l : S05.Tiny s.lanes
  v : SmallV s.dev
  j : s.jobs.length ≤ 1000000
  jl : ∀ l ∈ s.jobs, l.length ≤ 1000000
  jd : ∀ l ∈ s.jobs, ∀ x ∈ l, x.data.length ≤ 1000000
  o : s.out.length ≤ 1000000
  od : ∀ x ∈ s.out, x.data.length ≤ 1000000
def EJb : Enc Jb where
  sh := [.int .i64, .int .i64, .int .i64, .str, .int .i64]
  enc := jbE
  wf x := x.data.length ≤ 9223372036854775807 ∧ rng .i64 x.who ∧ rng .i64 x.tries
  dec g h := by
    obtain ⟨a, ha, r1⟩ := (h 0 _ rfl).intE
    obtain ⟨b, hb, _⟩ := (h 1 _ rfl).intE
    obtain ⟨c, hc, _⟩ := (h 2 _ rfl).intE
    obtain ⟨s, hs, hl⟩ := (h 3 _ rfl).strE
    obtain ⟨e, he, r2⟩ := (h 4 _ rfl).intE
    refine ⟨⟨a, b, c, s, e⟩, ⟨hl, r1, r2⟩, fun j hj => ?_⟩
    have hj : j < 5 := hj
    rcases (show j = 0 ∨ j = 1 ∨ j = 2 ∨ j = 3 ∨ j = 4 by omega) with rfl | rfl | rfl | rfl | rfl
    · rw [ha]; exact CEq.refl _
    · rw [hb]; exact CEq.refl _
    · rw [hc]; exact CEq.refl _
    · rw [hs]; exact CEq.refl _
    · rw [he]; exact CEq.refl _
section
variable {P : Program} {F : Nat → Nat}
theorem cost_ok (hm' : P.follows .mixedOrders = true) (hk : sched_cost_k P F) (k : Int) : FnOk P (F 192) [.one (.int .i64 k)] [.one (.im (.int .i64 (cost k)))] := by
  refine fnOk hm' hk ?_
  repeat' first | (with_reducible first | refine wkI ?_ | exact ⟨⟩ | refine wkB (fun _ => ?_) fun _ => ?_ | refine wkT (fun _ => ?_) ?_ | refine wkL ?_) | ((with_reducible refine wkC ?_ ?_); exact CEq.refl _) | ((with_reducible fail_if_success first | constructor | show False); conv => whnf)
  all_goals (refine Need.mk (eI (by simp only [decide_eq_true_eq, decide_eq_false_iff_not] at *; unfold cost; simp [*])) ?_)
  all_goals
    repeat' first | (with_reducible first | refine wkI ?_ | exact ⟨⟩ | refine wkB (fun _ => ?_) fun _ => ?_ | refine wkT (fun _ => ?_) ?_ | refine wkF ?_) | ((with_reducible refine wkC ?_ ?_); exact CEq.refl _) | ((with_reducible fail_if_success first | constructor | show False); conv => whnf)
theorem request_ok (hm' : P.follows .mixedOrders = true) (hk : sched_request_k P F) (x : Jb) (hs : x.data.length ≤ 9223372036854775807) : FnOk P (F 191) [.many 5 (jbE x)] [.one (.im (.bool (decide (jobOk x))))] := by
  refine fnOk hm' hk ?_
  repeat' first | (with_reducible first | refine wkI ?_ | exact ⟨⟩ | refine wkB (fun _ => ?_) fun _ => ?_ | refine wkT (fun _ => ?_) ?_ | refine wkL ?_) | ((with_reducible refine wkC ?_ ?_); exact CEq.refl _) | ((with_reducible fail_if_success first | constructor | show False); conv => whnf)
  all_goals (refine Need.mk (eB (by (rw [Bool.eq_iff_iff]; simp only [← List.length_eq_zero_iff, Bool.and_eq_true, Bool.or_eq_true, Bool.or_eq_false_iff, Bool.and_eq_false_imp, Bool.not_eq_true', Bool.not_eq_false', decide_eq_true_eq, decide_eq_false_iff_not, Bool.false_eq_true, false_iff] at *; unfold jobOk may; omega))) ?_)
  all_goals
    repeat' first | (with_reducible first | refine wkI ?_ | exact ⟨⟩ | refine wkB (fun _ => ?_) fun _ => ?_ | refine wkT (fun _ => ?_) ?_ | refine wkF ?_) | ((with_reducible refine wkC ?_ ?_); exact CEq.refl _) | ((with_reducible fail_if_success first | constructor | show False); conv => whnf)
end
end Lk.S06
namespace Lk.S06
open Go Lk Lk.C Lk.S03 Lk.S04
theorem sl_Clone_sched_Job_ok {P : Program} {F : Nat → Nat} (hm : P.follows .mixedOrders = true) (hk : sl_Clone_sched_Job_k P F) (n : Nat) (f : Nat → Nat → Cell) (hn : n ≤ 1000000) : FnOk P (F 194) [.one (.sl 5 n f)] [.one (.ow 5 n f)] := by
  refine fnOk hm hk ?_
  repeat' first | (with_reducible first | refine wkI ?_ | exact ⟨⟩ | refine wkB (fun _ => ?_) fun _ => ?_ | refine wkT (fun _ => ?_) ?_ | (refine Need.mk ?_ ?_; (first | assumption | omega | with_reducible exact CEq.refl _ | exact ⟨rfl, rfl⟩ | exact Nat.zero_add _ | exact (Nat.zero_add _).symm | exact ⟨rfl, Nat.le_refl _, (Nat.zero_add _).symm⟩ | exact appC_zero))) | ((with_reducible fail_if_success first | constructor | show False); conv => whnf)
theorem sl_Clone_Lsched_Job_ok {P : Program} {F : Nat → Nat} (hm : P.follows .mixedOrders = true) (hk : sl_Clone_Lsched_Job_k P F) (n : Nat) (f : Nat → Nat → Cell) (hn : n ≤ 1000000) : FnOk P (F 193) [.one (.sl 1 n f)] [.one (.ow 1 n f)] := by
  refine fnOk hm hk ?_
  repeat' first | (with_reducible first | refine wkI ?_ | exact ⟨⟩ | refine wkB (fun _ => ?_) fun _ => ?_ | refine wkT (fun _ => ?_) ?_ | (refine Need.mk ?_ ?_; (first | assumption | omega | with_reducible exact CEq.refl _ | exact ⟨rfl, rfl⟩ | exact Nat.zero_add _ | exact (Nat.zero_add _).symm | exact ⟨rfl, Nat.le_refl _, (Nat.zero_add _).symm⟩ | exact appC_zero))) | ((with_reducible fail_if_success first | constructor | show False); conv => whnf)
theorem sl_Grow_sched_Job_ok {P : Program} {F : Nat → Nat} (hm : P.follows .mixedOrders = true) (hk : sl_Grow_sched_Job_k P F) (n : Nat) (hn : n ≤ 1000000) :
    FnOk P (F 151) [.nil 5, .one (.int .i64 n)] [.one (.ow 5 0 fun _ _ => .bool false)] := by
  refine fnOk hm hk ?_
  repeat' first | (with_reducible first | refine wkI ?_ | exact ⟨⟩ | refine wkB (fun _ => ?_) fun _ => ?_ | refine wkT (fun _ => ?_) ?_ | refine wkS ?_) | ((with_reducible refine wkC ?_ ?_); exact CEq.refl _) | ((with_reducible fail_if_success first | constructor | show False); conv => whnf)
  · rename_i h
    have h := of_decide_eq_true h
    omega
theorem sl_Concat_sched_Job_ok {P : Program} {F : Nat → Nat} (hm : P.follows .mixedOrders = true) (hk : sl_Concat_sched_Job_k P F) (hg : sl_Grow_sched_Job_k P F) (n0 n1 : Nat) (f0 f1 : Nat → Nat → Cell) (h : n0 + n1 ≤ 1000000) :
    FnOk P (F 152) [.one (.sl 1 2 (twoC (.sl 5 n0 f0) (.sl 5 n1 f1)))] [.one (.ow 5 (n0 + n1) (appC f0 n0 f1))] := by
  refine fnOk hm hk ?_
  repeat' first | (with_reducible first | refine wkI ?_ | exact ⟨⟩ | refine wkB (fun _ => ?_) fun _ => ?_ | refine wkT (fun _ => ?_) ?_ | refine wkS ?_) | ((with_reducible refine wkC ?_ ?_); exact CEq.refl _) | ((with_reducible fail_if_success first | constructor | show False); conv => whnf)
  refine LoopVC.inv (fun i : Nat => i ≤ 2) (fun i => stL [(0, .c (.sl 1 2 (twoC (.sl 5 n0 f0) (.sl 5 n1 f1)))), (3, .c (.int .i64 (twoS n0 n1 i))), (9, .c (.sl 1 2 (twoC (.sl 5 n0 f0) (.sl 5 n1 f1)))), (10, .c (.int .i64 2)), (11, .c (.int .i64 i))] [])
    (fun i => 2 - i) 0 (by omega) ?_ ?_
  · (refine Le.of ?_ ?_ <;> repeat' first | exact trivial | exact CEq.refl _ | exact rfl | exact cI (by push_cast; first | rfl | omega) | exact SubE.dat fun _ _ _ _ => CEq.refl _ | refine SubE.varN ?_ | refine Exists.intro _ (And.intro rfl ?_) | refine And.intro ?_ ?_)
  · have e0 : twoS n0 n1 0 = 0 := rfl
    have e1 : twoS n0 n1 1 = n0 := rfl
    have e2 : twoS n0 n1 2 = n0 + n1 := rfl
    have g0 : twoN n0 n1 0 = 0 := rfl
    have g1 : twoN n0 n1 1 = 0 + n0 := rfl
    have g2 : twoN n0 n1 2 = 0 + n0 + n1 := rfl
    rintro Q hQ i hi
    rcases (show i = 0 ∨ i = 1 ∨ i = 2 by omega) with rfl | rfl | rfl
    · repeat' first | (with_reducible first | refine wkI ?_ | exact ⟨⟩ | refine wkB (fun _ => ?_) fun _ => ?_ | refine wkT (fun _ => ?_) ?_ | refine wkS ?_) | ((with_reducible refine wkC ?_ ?_); exact CEq.refl _) | ((with_reducible fail_if_success first | constructor | show False); conv => whnf)
      · rename_i h1 h2
        have h2 := of_decide_eq_true h2
        omega
      · refine LoopEnd.mk ⟨1, by omega, by omega, ?_⟩
        (refine Le.of ?_ ?_ <;> repeat' first | exact trivial | exact CEq.refl _ | exact rfl | exact cI (by push_cast; first | rfl | omega) | exact SubE.dat fun _ _ _ _ => CEq.refl _ | refine SubE.varN ?_ | refine Exists.intro _ (And.intro rfl ?_) | refine And.intro ?_ ?_)
        all_goals exact cI (by omega)
      · rename_i h1
        exact absurd h1 (by decide)
    · repeat' first | (with_reducible first | refine wkI ?_ | exact ⟨⟩ | refine wkB (fun _ => ?_) fun _ => ?_ | refine wkT (fun _ => ?_) ?_ | refine wkS ?_) | ((with_reducible refine wkC ?_ ?_); exact CEq.refl _) | ((with_reducible fail_if_success first | constructor | show False); conv => whnf)
      · rename_i h1 h2
        have h2 := of_decide_eq_true h2
        omega
      · refine LoopEnd.mk ⟨2, by omega, by omega, ?_⟩
        (refine Le.of ?_ ?_ <;> repeat' first | exact trivial | exact CEq.refl _ | exact rfl | exact cI (by push_cast; first | rfl | omega) | exact SubE.dat fun _ _ _ _ => CEq.refl _ | refine SubE.varN ?_ | refine Exists.intro _ (And.intro rfl ?_) | refine And.intro ?_ ?_)
        all_goals exact cI (by omega)
      · rename_i h1
        exact absurd h1 (by decide)
    · repeat' first | (with_reducible first | refine wkI ?_ | exact ⟨⟩ | refine wkB (fun _ => ?_) fun _ => ?_ | refine wkT (fun _ => ?_) ?_ | refine wkS ?_) | ((with_reducible refine wkC ?_ ?_); exact CEq.refl _) | ((with_reducible fail_if_success first | constructor | show False); conv => whnf)
      · rename_i h1 h2
        exact absurd h1 (by decide)
      · rename_i h1 h2
        exact absurd h1 (by decide)
      refine Out.mk (hQ _ _ ?_)
      repeat' first | (with_reducible first | refine wkI ?_ | exact ⟨⟩ | refine wkB (fun _ => ?_) fun _ => ?_ | refine wkT (fun _ => ?_) ?_ | refine wkS ?_) | ((with_reducible refine wkC ?_ ?_); exact CEq.refl _) | ((with_reducible fail_if_success first | constructor | show False); conv => whnf)
      refine CallVC.mk' (fun _ => sl_Grow_sched_Job_ok hm hg (n0 + n1) h) (fun _ => .cons .nil (.cons (.one (eI (by show ((n0 : Int) + n1) = ((n0 + n1 : Nat) : Int); push_cast; rfl))) .nil)) ?_
      repeat' first | (with_reducible first | refine wkI ?_ | exact ⟨⟩ | refine wkB (fun _ => ?_) fun _ => ?_ | refine wkT (fun _ => ?_) ?_ | refine wkS ?_) | ((with_reducible refine wkC ?_ ?_); exact CEq.refl _) | ((with_reducible fail_if_success first | constructor | show False); conv => whnf)
      refine LoopVC.inv (fun i : Nat => i ≤ 2) (fun i => stL [(6, .os 1024 0 5 0 (twoN n0 n1 i)), (25, .c (.sl 1 2 (twoC (.sl 5 n0 f0) (.sl 5 n1 f1)))), (26, .c (.int .i64 2)), (27, .c (.int .i64 i))] [(1024, ⟨5, twoN n0 n1 i, .dat (twoF n0 f0 f1 i), false, true⟩)])
        (fun i => 2 - i) 0 (by omega) ?_ ?_
      · (refine Le.of ?_ ?_ <;> repeat' first | exact trivial | exact CEq.refl _ | exact rfl | exact cI (by push_cast; first | rfl | omega) | exact SubE.dat fun _ _ _ _ => CEq.refl _ | refine SubE.varN ?_ | refine Exists.intro _ (And.intro rfl ?_) | refine And.intro ?_ ?_)
      · rintro Q2 hQ2 i hi
        rcases (show i = 0 ∨ i = 1 ∨ i = 2 by omega) with rfl | rfl | rfl
        · repeat' first | (with_reducible first | refine wkI ?_ | exact ⟨⟩ | refine wkB (fun _ => ?_) fun _ => ?_ | refine wkT (fun _ => ?_) ?_ | refine wkS ?_) | ((with_reducible refine wkC ?_ ?_); exact CEq.refl _) | ((with_reducible fail_if_success first | constructor | show False); conv => whnf)
          · refine LoopEnd.mk ⟨1, by omega, by omega, ?_⟩
            (refine Le.of ?_ ?_ <;> repeat' first | exact trivial | exact CEq.refl _ | exact rfl | exact cI (by push_cast; first | rfl | omega) | exact SubE.dat fun _ _ _ _ => CEq.refl _ | refine SubE.varN ?_ | refine Exists.intro _ (And.intro rfl ?_) | refine And.intro ?_ ?_)
          · rename_i h1
            exact absurd h1 (by decide)
        · repeat' first | (with_reducible first | refine wkI ?_ | exact ⟨⟩ | refine wkB (fun _ => ?_) fun _ => ?_ | refine wkT (fun _ => ?_) ?_ | refine wkS ?_) | ((with_reducible refine wkC ?_ ?_); exact CEq.refl _) | ((with_reducible fail_if_success first | constructor | show False); conv => whnf)
          · refine LoopEnd.mk ⟨2, by omega, by omega, ?_⟩
            (refine Le.of ?_ ?_ <;> repeat' first | exact trivial | exact CEq.refl _ | exact rfl | exact cI (by push_cast; first | rfl | omega) | exact SubE.dat fun _ _ _ _ => CEq.refl _ | refine SubE.varN ?_ | refine Exists.intro _ (And.intro rfl ?_) | refine And.intro ?_ ?_)
            exact SubE.dat fun r hr j hj => by
              show CEq (appC f0 (0 + n0) f1 r j) (appC f0 n0 f1 r j)
              rw [Nat.zero_add]
              exact CEq.refl _
          · rename_i h1
            exact absurd h1 (by decide)
        · repeat' first | (with_reducible first | refine wkI ?_ | exact ⟨⟩ | refine wkB (fun _ => ?_) fun _ => ?_ | refine wkT (fun _ => ?_) ?_ | refine wkS ?_) | ((with_reducible refine wkC ?_ ?_); exact CEq.refl _) | ((with_reducible fail_if_success first | constructor | show False); conv => whnf)
          · rename_i h1
            exact absurd h1 (by decide)
          refine Out.mk (hQ2 _ _ ?_)
          repeat' first | (with_reducible first | refine wkI ?_ | exact ⟨⟩ | refine wkB (fun _ => ?_) fun _ => ?_ | refine wkT (fun _ => ?_) ?_ | refine wkS ?_) | ((with_reducible refine wkC ?_ ?_); exact CEq.refl _) | ((with_reducible fail_if_success first | constructor | show False); conv => whnf)
          refine Need.mk (fun i _ j _ => CEq.refl _) ?_
          repeat' first | (with_reducible first | refine wkI ?_ | exact ⟨⟩ | refine wkB (fun _ => ?_) fun _ => ?_ | refine wkT (fun _ => ?_) ?_ | refine wkS ?_) | ((with_reducible refine wkC ?_ ?_); exact CEq.refl _) | ((with_reducible fail_if_success first | constructor | show False); conv => whnf)
def sV (s : Sd) : Ent := vE [.c (slL 3 S05.lnE s.lanes.list), .c (.int .i64 s.lanes.at_), .c (.bool s.lanes.given), .c (slL 1 jlE s.jobs), .c (slL 1 strE s.dev.disk.secs), .c (slL 2 wrE s.dev.disk.cache), .c (.int .i64 s.dev.next), .c (slL 4 rqE s.dev.flight), .c (slL 5 jbE s.out)]
section
variable {P : Program} {F : Nat → Nat}
structure KSd (P : Program) (F : Nat → Nat) : Prop where
  d : KDev P F
  l : S05.KLn P F
  right : sched_Right_k P F
  cost : sched_cost_k P F
  request : sched_request_k P F
  new : sched_New_k P F
  ask : sched_Ask_k P F
  pump : sched_Pump_k P F
  done : sched_Done_k P F
  crash : sched_Crash_k P F
  cloneJ : sl_Clone_sched_Job_k P F
  cloneL : sl_Clone_Lsched_Job_k P F
  concat : sl_Concat_sched_Job_k P F
  grow : sl_Grow_sched_Job_k P F
theorem right_ok (K : KSd P F) (s : Sd) (S : SmallS s) : FnOk P (F 187) [.many 9 (sdE s)] [.one (.im (.bool (decide (rightS s))))] := by
  refine fnOk K.d.k.m K.right ?_
  have hj := S.j
  have ho := S.o
  repeat' first | (with_reducible first | refine wkI ?_ | exact ⟨⟩ | refine wkB (fun _ => ?_) fun _ => ?_ | refine wkT (fun _ => ?_) ?_ | refine wkL ?_) | ((with_reducible refine wkC ?_ ?_); exact CEq.refl _) | ((with_reducible fail_if_success first | constructor | show False); conv => whnf)
  refine CallVC.mk' (fun _ => S05.right_ok K.d.k.m K.l.right s.lanes S.l) (fun _ => .cons ((mC3 (by rfl))) .nil) ?_
  repeat' first | (with_reducible first | refine wkI ?_ | exact ⟨⟩ | refine wkB (fun _ => ?_) fun _ => ?_ | refine wkT (fun _ => ?_) ?_ | refine wkL ?_) | ((with_reducible refine wkC ?_ ?_); exact CEq.refl _) | ((with_reducible fail_if_success first | constructor | show False); conv => whnf)
  refine CallVC.mk' (fun _ => S04.right_ok K.d s.dev S.v) (fun _ => .cons ((mC4 (by rfl))) .nil) ?_
  repeat' first | (with_reducible first | refine wkI ?_ | exact ⟨⟩ | refine wkB (fun _ => ?_) fun _ => ?_ | refine wkT (fun _ => ?_) ?_ | refine wkL ?_) | ((with_reducible refine wkC ?_ ?_); exact CEq.refl _) | ((with_reducible fail_if_success first | constructor | show False); conv => whnf)
  · rename_i h
    rw [decide_eq_false (fun x : rightS s => by
      rw [decide_eq_true x.1.1, decide_eq_true x.1.2] at h
      simp at h)]
    repeat' first | (with_reducible first | refine wkI ?_ | exact ⟨⟩ | refine wkB (fun _ => ?_) fun _ => ?_ | refine wkT (fun _ => ?_) ?_ | refine wkF ?_) | ((with_reducible refine wkC ?_ ?_); exact CEq.refl _) | ((with_reducible fail_if_success first | constructor | show False); conv => whnf)
  · rename_i h0 h
    rw [decide_eq_false (fun x : rightS s => by
      obtain ⟨-, ⟨a, b⟩, -⟩ := x
      simp only [Bool.or_eq_true, Bool.not_eq_true', decide_eq_false_iff_not] at h; omega)]
    repeat' first | (with_reducible first | refine wkI ?_ | exact ⟨⟩ | refine wkB (fun _ => ?_) fun _ => ?_ | refine wkT (fun _ => ?_) ?_ | refine wkF ?_) | ((with_reducible refine wkC ?_ ?_); exact CEq.refl _) | ((with_reducible fail_if_success first | constructor | show False); conv => whnf)
  rename_i h0 h
  simp only [Bool.or_eq_false_iff, Bool.not_eq_false', decide_eq_true_eq] at h0 h
  have e1 : s.jobs.length = s.lanes.list.length := by omega
  have e2 : s.out.length = s.dev.flight.length := by omega
  refine LoopVC.inv (fun i : Nat => i ≤ s.jobs.length ∧ ∀ k, k < i → okJ k (s.lanes.list.getD k default).costs (s.jobs.getD k default)) (fun i => stL [(1, .va 1 0 0), (40, .c (slL 1 jlE s.jobs)), (41, .c (.int .i64 s.jobs.length)), (42, .c (.int .i64 i))] [(1, sV s)]) (fun i => s.jobs.length - i) 0 ⟨Nat.zero_le _, fun k hk => by omega⟩ ?_ ?_
  · (refine Le.of ?_ ?_ <;> repeat' first | exact trivial | exact CEq.refl _ | exact rfl | exact cI (by push_cast; first | rfl | omega) | exact SubE.dat fun _ _ _ _ => CEq.refl _ | refine SubE.varN ?_ | refine Exists.intro _ (And.intro rfl ?_) | refine And.intro ?_ ?_)
  rintro Q hQ i ⟨hi, hok⟩
  repeat' first | (with_reducible first | refine wkI ?_ | exact ⟨⟩ | refine wkB (fun _ => ?_) fun _ => ?_ | refine wkT (fun _ => ?_) ?_ | refine wkL ?_) | ((with_reducible refine wkC ?_ ?_); exact CEq.refl _) | ((with_reducible fail_if_success first | constructor | show False); conv => whnf)
  · rename_i h1
    have h1 : i < s.jobs.length := by have := of_decide_eq_true h1; omega
    have hjl := S.jl _ (getD_mem h1)
    have hjd := S.jd _ (getD_mem h1)
    repeat' first | (with_reducible first | refine wkI ?_ | exact ⟨⟩ | refine wkB (fun _ => ?_) fun _ => ?_ | refine wkT (fun _ => ?_) ?_ | refine wkL ?_) | ((with_reducible refine wkC ?_ ?_); exact CEq.refl _) | ((with_reducible fail_if_success first | constructor | show False); conv => whnf)
    · rename_i g
      rw [Int.toNat_natCast] at g
      simp only [Bool.not_eq_true', decide_eq_false_iff_not] at g
      refine Out.mk (hQ _ _ ?_)
      rw [decide_eq_false (fun x : rightS s => g (by rw [(x.2.2.1 i h1).1]))]
      repeat' first | (with_reducible first | refine wkI ?_ | exact ⟨⟩ | refine wkB (fun _ => ?_) fun _ => ?_ | refine wkT (fun _ => ?_) ?_ | refine wkF ?_) | ((with_reducible refine wkC ?_ ?_); exact CEq.refl _) | ((with_reducible fail_if_success first | constructor | show False); conv => whnf)
    rename_i g
    rw [Int.toNat_natCast] at *
    simp only [Bool.not_eq_false', decide_eq_true_eq] at g
    have hln : (s.jobs.getD i default).length = (s.lanes.list.getD i default).costs.length := by omega
    refine LoopVC.inv (fun k : Nat => k ≤ (s.jobs.getD i default).length ∧ ∀ m, m < k → (jobOk ((s.jobs.getD i default).getD m default) ∧ cost ((s.jobs.getD i default).getD m default).kind = (s.lanes.list.getD i default).costs.getD m default) ∧ ((s.jobs.getD i default).getD m default).who = i ∧ ((s.jobs.getD i default).getD m default).tries = 0)
      (fun k => stL [(1, .va 1 0 0), (3, .c (.int .i64 i)), (5, .c (slL 1 S05.intE (s.lanes.list.getD i default).costs)), (40, .c (slL 1 jlE s.jobs)), (41, .c (.int .i64 s.jobs.length)), (42, .c (.int .i64 i)), (59, .c (slL 5 jbE (s.jobs.getD i default))), (60, .c (.int .i64 (s.jobs.getD i default).length)), (61, .c (.int .i64 k))] [(1, sV s)]) (fun k => (s.jobs.getD i default).length - k) 0 ⟨Nat.zero_le _, fun m hm => by omega⟩ ?_ ?_
    · (refine Le.of ?_ ?_ <;> repeat' first | exact trivial | exact CEq.refl _ | exact rfl | exact cI (by push_cast; first | rfl | omega) | exact SubE.dat fun _ _ _ _ => CEq.refl _ | refine SubE.varN ?_ | refine Exists.intro _ (And.intro rfl ?_) | refine And.intro ?_ ?_)
    rintro Q2 hQ2 k ⟨hk, hkk⟩
    repeat' first | (with_reducible first | refine wkI ?_ | exact ⟨⟩ | refine wkB (fun _ => ?_) fun _ => ?_ | refine wkT (fun _ => ?_) ?_ | refine wkL ?_) | ((with_reducible refine wkC ?_ ?_); exact CEq.refl _) | ((with_reducible fail_if_success first | constructor | show False); conv => whnf)
    · rename_i h2
      have h2 : k < (s.jobs.getD i default).length := by have := of_decide_eq_true h2; omega
      have hxd := hjd _ (getD_mem h2)
      repeat' first | (with_reducible first | refine wkI ?_ | exact ⟨⟩ | refine wkB (fun _ => ?_) fun _ => ?_ | refine wkT (fun _ => ?_) ?_ | refine wkL ?_) | ((with_reducible refine wkC ?_ ?_); exact CEq.refl _) | ((with_reducible fail_if_success first | constructor | show False); conv => whnf)
      rw [Int.toNat_natCast]
      refine CallVC.mk' (fun _ => request_ok K.d.k.m K.request ((s.jobs.getD i default).getD k default) (by omega)) (fun _ => .cons ((mC5 (by rfl))) .nil) ?_
      repeat' first | (with_reducible first | refine wkI ?_ | exact ⟨⟩ | refine wkB (fun _ => ?_) fun _ => ?_ | refine wkT (fun _ => ?_) ?_ | refine wkL ?_) | ((with_reducible refine wkC ?_ ?_); exact CEq.refl _) | ((with_reducible fail_if_success first | constructor | show False); conv => whnf)
      refine CallVC.mk' (fun _ => cost_ok K.d.k.m K.cost ((s.jobs.getD i default).getD k default).kind) (fun _ => .cons (.one (CEq.refl _)) .nil) ?_
      repeat' first | (with_reducible first | refine wkI ?_ | exact ⟨⟩ | refine wkB (fun _ => ?_) fun _ => ?_ | refine wkT (fun _ => ?_) ?_ | refine wkL ?_) | ((with_reducible refine wkC ?_ ?_); exact CEq.refl _) | ((with_reducible fail_if_success first | constructor | show False); conv => whnf)
      · rename_i g2
        rw [Int.toNat_natCast] at g2
        simp only [Bool.or_eq_true, Bool.not_eq_true', decide_eq_false_iff_not] at g2
        refine Out.mk (hQ2 _ _ ?_)
        refine Out.mk (hQ _ _ ?_)
        rw [decide_eq_false (fun x : rightS s => by
          obtain ⟨⟨a, b⟩, c, d⟩ := (x.2.2.1 i h1).2 k h2
          rcases g2 with ((g2 | g2) | g2) | g2
          · exact g2 a
          · exact g2 b
          · exact g2 c
          · exact g2 d)]
        repeat' first | (with_reducible first | refine wkI ?_ | exact ⟨⟩ | refine wkB (fun _ => ?_) fun _ => ?_ | refine wkT (fun _ => ?_) ?_ | refine wkF ?_) | ((with_reducible refine wkC ?_ ?_); exact CEq.refl _) | ((with_reducible fail_if_success first | constructor | show False); conv => whnf)
      · rename_i g2
        rw [Int.toNat_natCast] at g2
        simp only [Bool.or_eq_false_iff, Bool.not_eq_false', decide_eq_true_eq] at g2
        refine LoopEnd.mk ⟨k + 1, ⟨by omega, fun m hm => ?_⟩, by omega, by clear hQ hQ2; (refine Le.of ?_ ?_ <;> repeat' first | exact trivial | exact CEq.refl _ | exact rfl | exact cI (by push_cast; first | rfl | omega) | exact SubE.dat fun _ _ _ _ => CEq.refl _ | refine SubE.varN ?_ | refine Exists.intro _ (And.intro rfl ?_) | refine And.intro ?_ ?_)⟩
        rcases Nat.lt_or_ge m k with h9 | h9
        · exact hkk m h9
        · obtain rfl : m = k := by omega
          exact ⟨⟨g2.1.1.1, g2.1.1.2⟩, g2.1.2, g2.2⟩
    · rename_i h2
      have h2 : ¬ (k : Int) < (s.jobs.getD i default).length := of_decide_eq_false h2
      refine Out.mk (hQ2 _ _ ?_)
      repeat' first | (with_reducible first | refine wkI ?_ | exact ⟨⟩ | refine wkB (fun _ => ?_) fun _ => ?_ | refine wkT (fun _ => ?_) ?_ | refine wkL ?_) | ((with_reducible refine wkC ?_ ?_); exact CEq.refl _) | ((with_reducible fail_if_success first | constructor | show False); conv => whnf)
      refine LoopEnd.mk ⟨i + 1, ⟨by omega, fun m hm => ?_⟩, by omega, by clear hQ hQ2; (refine Le.of ?_ ?_ <;> repeat' first | exact trivial | exact CEq.refl _ | exact rfl | exact cI (by push_cast; first | rfl | omega) | exact SubE.dat fun _ _ _ _ => CEq.refl _ | refine SubE.varN ?_ | refine Exists.intro _ (And.intro rfl ?_) | refine And.intro ?_ ?_)⟩
      rcases Nat.lt_or_ge m i with h9 | h9
      · exact hok m h9
      · obtain rfl : m = i := by omega
        exact ⟨hln, fun m' hm' => hkk m' (by omega)⟩
  · rename_i h1
    have h1 : ¬ (i : Int) < s.jobs.length := of_decide_eq_false h1
    have hok : ∀ k, k < s.jobs.length → okJ k (s.lanes.list.getD k default).costs (s.jobs.getD k default) := fun k hk => hok k (by omega)
    refine Out.mk (hQ _ _ ?_)
    clear hQ
    repeat' first | (with_reducible first | refine wkI ?_ | exact ⟨⟩ | refine wkB (fun _ => ?_) fun _ => ?_ | refine wkT (fun _ => ?_) ?_ | refine wkL ?_) | ((with_reducible refine wkC ?_ ?_); exact CEq.refl _) | ((with_reducible fail_if_success first | constructor | show False); conv => whnf)
    refine LoopVC.inv (fun i : Nat => i ≤ s.out.length ∧ ∀ k, k < i → okO s.jobs.length (s.out.getD k default) (s.dev.flight.getD k default)) (fun i => stL [(1, .va 1 0 0), (93, .c (slL 5 jbE s.out)), (94, .c (.int .i64 s.out.length)), (95, .c (.int .i64 i))] [(1, sV s)]) (fun i => s.out.length - i) 0 ⟨Nat.zero_le _, fun k hk => by omega⟩ ?_ ?_
    · (refine Le.of ?_ ?_ <;> repeat' first | exact trivial | exact CEq.refl _ | exact rfl | exact cI (by push_cast; first | rfl | omega) | exact SubE.dat fun _ _ _ _ => CEq.refl _ | refine SubE.varN ?_ | refine Exists.intro _ (And.intro rfl ?_) | refine And.intro ?_ ?_)
    rintro Q hQ i ⟨hi, hoo⟩
    repeat' first | (with_reducible first | refine wkI ?_ | exact ⟨⟩ | refine wkB (fun _ => ?_) fun _ => ?_ | refine wkT (fun _ => ?_) ?_ | refine wkL ?_) | ((with_reducible refine wkC ?_ ?_); exact CEq.refl _) | ((with_reducible fail_if_success first | constructor | show False); conv => whnf)
    · rename_i g1
      have g1 : i < s.out.length := by have := of_decide_eq_true g1; omega
      have hod := S.od _ (getD_mem g1)
      repeat' first | (with_reducible first | refine wkI ?_ | exact ⟨⟩ | refine wkB (fun _ => ?_) fun _ => ?_ | refine wkT (fun _ => ?_) ?_ | refine wkL ?_) | ((with_reducible refine wkC ?_ ?_); exact CEq.refl _) | ((with_reducible fail_if_success first | constructor | show False); conv => whnf)
      · rename_i g2
        rw [Int.toNat_natCast] at g2
        simp only [Bool.or_eq_true, Bool.not_eq_true', decide_eq_false_iff_not] at g2
        refine Out.mk (hQ _ _ ?_)
        rw [decide_eq_false (fun x : rightS s => by
          obtain ⟨⟨a, b, c⟩, -⟩ := x.2.2.2 i g1
          rcases g2 with (g2 | g2) | g2
          · exact g2 a
          · exact g2 b
          · exact g2 c)]
        repeat' first | (with_reducible first | refine wkI ?_ | exact ⟨⟩ | refine wkB (fun _ => ?_) fun _ => ?_ | refine wkT (fun _ => ?_) ?_ | refine wkF ?_) | ((with_reducible refine wkC ?_ ?_); exact CEq.refl _) | ((with_reducible fail_if_success first | constructor | show False); conv => whnf)
      · rename_i g2 g3
        rw [Int.toNat_natCast] at g3
        simp only [Bool.or_eq_true, decide_eq_true_eq] at g3
        refine Out.mk (hQ _ _ ?_)
        rw [decide_eq_false (fun x : rightS s => by
          obtain ⟨-, a, b⟩ := x.2.2.2 i g1
          omega)]
        repeat' first | (with_reducible first | refine wkI ?_ | exact ⟨⟩ | refine wkB (fun _ => ?_) fun _ => ?_ | refine wkT (fun _ => ?_) ?_ | refine wkF ?_) | ((with_reducible refine wkC ?_ ?_); exact CEq.refl _) | ((with_reducible fail_if_success first | constructor | show False); conv => whnf)
      · rename_i g2 g3
        rw [Int.toNat_natCast] at g2 g3
        simp only [Bool.or_eq_false_iff, Bool.not_eq_false', decide_eq_true_eq, decide_eq_false_iff_not] at g2 g3
        refine LoopEnd.mk ⟨i + 1, ⟨by omega, fun m hm => ?_⟩, by omega, by clear hQ; (refine Le.of ?_ ?_ <;> repeat' first | exact trivial | exact CEq.refl _ | exact rfl | exact cI (by push_cast; first | rfl | omega) | exact SubE.dat fun _ _ _ _ => CEq.refl _ | refine SubE.varN ?_ | refine Exists.intro _ (And.intro rfl ?_) | refine And.intro ?_ ?_)⟩
        rcases Nat.lt_or_ge m i with h9 | h9
        · exact hoo m h9
        · obtain rfl : m = i := by omega
          exact ⟨⟨g2.1.1, g2.1.2, g2.2⟩, ⟨by omega, by omega⟩, by omega, by omega⟩
    · rename_i g1
      have g1 : ¬ (i : Int) < s.out.length := of_decide_eq_false g1
      refine Out.mk (hQ _ _ ?_)
      rw [decide_eq_true (show rightS s from ⟨h0, ⟨e1, e2⟩, hok, fun k hk => hoo k (by omega)⟩)]
      repeat' first | (with_reducible first | refine wkI ?_ | exact ⟨⟩ | refine wkB (fun _ => ?_) fun _ => ?_ | refine wkT (fun _ => ?_) ?_ | refine wkF ?_) | ((with_reducible refine wkC ?_ ?_); exact CEq.refl _) | ((with_reducible fail_if_success first | constructor | show False); conv => whnf)
end
end Lk.S06
namespace Lk.S06
open Go Lk Lk.C Lk.S03 Lk.S04
def newNo (d : Dv) : Prop := ¬ rightV d ∨ 0 < d.flight.length
instance (d : Dv) : Decidable (newNo d) := by unfold newNo; infer_instance
def noS : Sd := ⟨⟨[], 0, false⟩, [], ⟨⟨[], []⟩, 0, []⟩, []⟩
def newS (d : Dv) (w : List Int) : Sd × Int :=
  if newNo d then (noS, 1) else if S05.newE w ≠ 0 then (noS, S05.newE w) else (⟨S05.newL w, List.replicate w.length [], d, []⟩, 0)
def askNo (s : Sd) (x : Jb) : Prop := ¬ rightS s ∨ x.tries ≠ 0 ∨ x.who < 0 ∨ (s.jobs.length : Int) ≤ x.who ∨ ¬ jobOk x
instance (s : Sd) (x : Jb) : Decidable (askNo s x) := by unfold askNo; infer_instance
def askS (s : Sd) (x : Jb) : Sd × Int :=
  if askNo s x then (s, 1) else if 200 ≤ (s.jobs.getD x.who.toNat default).length then (s, 7)
  else (⟨S05.pushX s.lanes x.who.toNat (cost x.kind), s.jobs.set x.who.toNat (s.jobs.getD x.who.toNat default ++ [x]), s.dev, s.out⟩, 0)
theorem rightS.small {s : Sd} (h : rightS s) : SmallS s := by
  have hj := h.1.1.1.2
  refine ⟨S05.right.tiny h.1.1, rightV.small h.1.2, by have := h.2.1.1; omega, all_of_getD fun i hi => ?_, all_of_getD fun i hi => all_of_getD fun k hk => ?_, by have := h.2.1.2; have := h.1.2.2.1.2.2; omega, all_of_getD fun i hi => ?_⟩
  · have := (h.2.2.1 i hi).1
    have hc := (h.1.1.2.2 i (by have := h.2.1.1; omega)).2.2.1
    omega
  · rcases ((h.2.2.1 i hi).2 k hk).1.1 with x | x | x <;> omega
  · have h1 := (h.2.2.2 i hi).1
    rcases (h.1.2.2.2 i (by have := h.2.1.2; omega)).2.2 with x | x | x <;> (rw [h1.2.2]; omega)
theorem isL_set {l : List (List Jb)} {f : Nat → Nat → Cell} {k : Nat} {X : Cell} {y : List Jb} (hk : k < l.length) (h : IsL 1 jlE l f) (hx : CEq X (slL 5 jbE y)) : IsL 1 jlE (l.set k y) (updC f k 0 X) := fun i hi j hj => by
  obtain rfl : j = 0 := by omega
  rw [List.length_set] at hi
  rw [updC_at, set_getD hk]
  by_cases e : i = k
  · rw [if_pos ⟨e, rfl⟩, if_pos e.symm]; exact hx
  · rw [if_neg (fun x => e x.1), if_neg (fun x => e x.symm)]; exact h i hi 0 (by omega)
theorem isL_one {x : Jb} {g : Nat → Nat → Cell} (h0 : g 0 0 = .int .i64 x.who) (h1 : g 0 1 = .int .i64 x.kind) (h2 : g 0 2 = .int .i64 x.page) (h3 : g 0 3 = .str x.data) (h4 : g 0 4 = .int .i64 x.tries) : IsL 5 jbE [x] g := IsL.one fun j hj => by
  rcases (show j = 0 ∨ j = 1 ∨ j = 2 ∨ j = 3 ∨ j = 4 by omega) with rfl | rfl | rfl | rfl | rfl
  · rw [h0]; exact CEq.refl _
  · rw [h1]; exact CEq.refl _
  · rw [h2]; exact CEq.refl _
  · rw [h3]; exact CEq.refl _
  · rw [h4]; exact CEq.refl _
section
variable {P : Program} {F : Nat → Nat}
theorem ask_ok (K : KSd P F) (s : Sd) (x : Jb) (S : SmallS s) (hx : x.data.length ≤ 9223372036854775807) :
    FnOk P (F 177) [.many 9 (sdE s), .many 5 (jbE x)] [.many 9 (fun j => .im (sdE (askS s x).1 j)), .one (.im (.int .i64 (askS s x).2))] := by
  refine fnOk K.d.k.m K.ask ?_
  have hj := S.j
  repeat' first | (with_reducible first | refine wkI ?_ | exact ⟨⟩ | refine wkB (fun _ => ?_) fun _ => ?_ | refine wkT (fun _ => ?_) ?_ | refine wkL ?_) | ((with_reducible refine wkC ?_ ?_); exact CEq.refl _) | ((with_reducible fail_if_success first | constructor | show False); conv => whnf)
  refine CallVC.mk' (fun _ => right_ok K s S) (fun _ => .cons ((mC9 (by rfl))) .nil) ?_
  repeat' first | (with_reducible first | refine wkI ?_ | exact ⟨⟩ | refine wkB (fun _ => ?_) fun _ => ?_ | refine wkT (fun _ => ?_) ?_ | refine wkL ?_) | ((with_reducible refine wkC ?_ ?_); exact CEq.refl _) | ((with_reducible fail_if_success first | constructor | show False); conv => whnf)
  refine CallVC.mk' (fun _ => request_ok K.d.k.m K.request x hx) (fun _ => .cons ((mC5 (by rfl))) .nil) ?_
  repeat' first | (with_reducible first | refine wkI ?_ | exact ⟨⟩ | refine wkB (fun _ => ?_) fun _ => ?_ | refine wkT (fun _ => ?_) ?_ | refine wkL ?_) | ((with_reducible refine wkC ?_ ?_); exact CEq.refl _) | ((with_reducible fail_if_success first | constructor | show False); conv => whnf)
  · rename_i h
    have h : askNo s x := by
      simp only [Bool.or_eq_true, Bool.not_eq_true', decide_eq_false_iff_not, decide_eq_true_eq, or_assoc] at h
      exact h
    rw [show askS s x = (s, 1) from if_pos h]
    repeat' first | (with_reducible first | refine wkI ?_ | exact ⟨⟩ | refine wkB (fun _ => ?_) fun _ => ?_ | refine wkT (fun _ => ?_) ?_ | refine wkL ?_) | ((with_reducible refine wkC ?_ ?_); exact CEq.refl _) | ((with_reducible fail_if_success first | constructor | show False); conv => whnf)
  rename_i h
  have h : ¬ askNo s x := by
    simp only [Bool.or_eq_false_iff, Bool.not_eq_false', decide_eq_true_eq, decide_eq_false_iff_not] at h
    rintro (y | y | y | y | y)
    · exact y h.1.1.1.1
    · exact y h.1.1.1.2
    · exact h.1.1.2 y
    · exact h.1.2 y
    · exact y h.2
  have hr : rightS s := Classical.byContradiction fun y => h (.inl y)
  have hw0 : 0 ≤ x.who := by have : ¬ x.who < 0 := fun y => h (.inr (.inr (.inl y))); omega
  have hw1 : x.who < s.jobs.length := by have : ¬ (s.jobs.length : Int) ≤ x.who := fun y => h (.inr (.inr (.inr (.inl y)))); omega
  have hxo : jobOk x := Classical.byContradiction fun y => h (.inr (.inr (.inr (.inr y))))
  have hwn : x.who.toNat < s.jobs.length := by omega
  have hjl := S.jl _ (getD_mem hwn)
  repeat' first | (with_reducible first | refine wkI ?_ | exact ⟨⟩ | refine wkB (fun _ => ?_) fun _ => ?_ | refine wkT (fun _ => ?_) ?_ | refine wkL ?_) | ((with_reducible refine wkC ?_ ?_); exact CEq.refl _) | ((with_reducible fail_if_success first | constructor | show False); conv => whnf)
  · rename_i g
    have g := of_decide_eq_true g
    rw [show askS s x = (s, 7) by unfold askS; rw [if_neg h, if_pos (by omega)]]
    repeat' first | (with_reducible first | refine wkI ?_ | exact ⟨⟩ | refine wkB (fun _ => ?_) fun _ => ?_ | refine wkT (fun _ => ?_) ?_ | refine wkL ?_) | ((with_reducible refine wkC ?_ ?_); exact CEq.refl _) | ((with_reducible fail_if_success first | constructor | show False); conv => whnf)
  rename_i g
  have g := of_decide_eq_false g
  rw [show askS s x = (⟨S05.pushX s.lanes x.who.toNat (cost x.kind), s.jobs.set x.who.toNat (s.jobs.getD x.who.toNat default ++ [x]), s.dev, s.out⟩, 0) by unfold askS; rw [if_neg h, if_neg (by omega)]]
  refine CallVC.mk' (fun _ => cost_ok K.d.k.m K.cost x.kind) (fun _ => .cons (.one (CEq.refl _)) .nil) ?_
  repeat' first | (with_reducible first | refine wkI ?_ | exact ⟨⟩ | refine wkB (fun _ => ?_) fun _ => ?_ | refine wkT (fun _ => ?_) ?_ | refine wkL ?_) | ((with_reducible refine wkC ?_ ?_); exact CEq.refl _) | ((with_reducible fail_if_success first | constructor | show False); conv => whnf)
  have hcst : 1 ≤ cost x.kind ∧ cost x.kind ≤ 8 := by
    unfold cost
    rcases hxo with y | y | y <;> simp [y.1]
  have hpe : S05.pushE s.lanes x.who (cost x.kind) = 0 := by
    unfold S05.pushE
    rw [if_pos ⟨hr.1.1, ⟨hw0, by have := hr.2.1.1; omega⟩, hcst⟩, if_neg (by have := (hr.2.2.1 _ hwn).1; omega)]
  have hpl : S05.pushL s.lanes x.who (cost x.kind) = S05.pushX s.lanes x.who.toNat (cost x.kind) := by unfold S05.pushL; rw [if_pos hpe]
  refine CallVC.mk' (fun _ => S05.push_ok K.l s.lanes x.who (cost x.kind) S.l) (fun _ => .cons ((mC3 (by rfl))) (.cons (.one (CEq.refl _)) (.cons (.one (CEq.refl _)) .nil))) ?_
  rw [hpe, hpl]
  repeat' first | (with_reducible first | refine wkI ?_ | exact ⟨⟩ | refine wkB (fun _ => ?_) fun _ => ?_ | refine wkT (fun _ => ?_) ?_ | refine wkL ?_) | ((with_reducible refine wkC ?_ ?_); exact CEq.refl _) | ((with_reducible fail_if_success first | constructor | show False); conv => whnf)
  · rename_i y
    exact absurd y (by decide)
  refine CallVC.mk' (fun _ => sl_Clone_Lsched_Job_ok K.d.k.m K.cloneL s.jobs.length (fun i j => jlE (s.jobs.getD i default) j) hj) (fun _ => .cons (.one (CEq.refl _)) .nil) ?_
  repeat' first | (with_reducible first | refine wkI ?_ | exact ⟨⟩ | refine wkB (fun _ => ?_) fun _ => ?_ | refine wkT (fun _ => ?_) ?_ | refine wkL ?_) | ((with_reducible refine wkC ?_ ?_); exact CEq.refl _) | ((with_reducible fail_if_success first | constructor | show False); conv => whnf)
  rw [show addN 0 x.who.toNat = x.who.toNat from rfl]
  refine CallVC.mk' (fun _ => sl_Clone_sched_Job_ok K.d.k.m K.cloneJ (s.jobs.getD x.who.toNat default).length (fun i j => jbE ((s.jobs.getD x.who.toNat default).getD i default) j) hjl) (fun _ => .cons (.one (CEq.refl _)) .nil) ?_
  repeat' first | (with_reducible first | refine wkI ?_ | exact ⟨⟩ | refine wkB (fun _ => ?_) fun _ => ?_ | refine wkT (fun _ => ?_) ?_ | refine wkL ?_) | ((with_reducible refine wkC ?_ ?_); exact CEq.refl _) | ((with_reducible fail_if_success first | constructor | show False); conv => whnf)
  refine Need.mk ((isL_set hwn IsL.refl (((IsL.app (size := 5) (enc := jbE) (l := s.jobs.getD x.who.toNat default) IsL.refl rfl (isL_one (x := x) rfl rfl rfl rfl rfl)).off).ceq (by simp))).off.ceq (by simp)) ?_
  repeat' first | (with_reducible first | refine wkI ?_ | exact ⟨⟩ | refine wkB (fun _ => ?_) fun _ => ?_ | refine wkT (fun _ => ?_) ?_ | refine wkL ?_) | ((with_reducible refine wkC ?_ ?_); exact CEq.refl _) | ((with_reducible fail_if_success first | constructor | show False); conv => whnf)
end
end Lk.S06
namespace Lk.S06
open Go Lk Lk.C Lk.S03 Lk.S04
def crashS (s : Sd) (keep : List Int) : Sd := if rightS s then ⟨S05.newL (s.lanes.list.map (·.weight)), List.replicate s.lanes.list.length [], crashV s.dev keep, []⟩ else s
theorem nilsL {n : Nat} {f : Nat → Nat → Cell} (h : ∀ i j, ∃ z g, f i j = .sl z 0 g) : IsL 1 jlE (List.replicate n []) f := fun i hi j hj => by
  obtain rfl : j = 0 := by omega
  obtain ⟨z, g, e⟩ := h i 0
  rw [e, show (List.replicate n ([] : List Jb)).getD i default = [] by rw [getD_eq hi]; simp]
  exact ceq_nil
section
variable {P : Program} {F : Nat → Nat}
theorem newS_ok (K : KSd P F) (d : Dv) (w : List Int) (S : SmallV d) (hw : w.length ≤ 1000000) :
    FnOk P (F 175) [.many 4 (dvE d), .one (slL 1 intE w)] [.many 9 (fun j => .im (sdE (newS d w).1 j)), .one (.im (.int .i64 (newS d w).2))] := by
  refine fnOk K.d.k.m K.new ?_
  have hf := S.f
  repeat' first | (with_reducible first | refine wkI ?_ | exact ⟨⟩ | refine wkB (fun _ => ?_) fun _ => ?_ | refine wkT (fun _ => ?_) ?_ | refine wkL ?_) | ((with_reducible refine wkC ?_ ?_); exact CEq.refl _) | ((with_reducible fail_if_success first | constructor | show False); conv => whnf)
  refine CallVC.mk' (fun _ => S04.right_ok K.d d S) (fun _ => .cons ((mC4 (by rfl))) .nil) ?_
  repeat' first | (with_reducible first | refine wkI ?_ | exact ⟨⟩ | refine wkB (fun _ => ?_) fun _ => ?_ | refine wkT (fun _ => ?_) ?_ | refine wkL ?_) | ((with_reducible refine wkC ?_ ?_); exact CEq.refl _) | ((with_reducible fail_if_success first | constructor | show False); conv => whnf)
  · rename_i h
    have h : newNo d := by
      simp only [Bool.or_eq_true, Bool.not_eq_true', decide_eq_false_iff_not, decide_eq_true_eq] at h
      exact h.imp id fun x => by omega
    rw [show newS d w = (noS, 1) from if_pos h]
    repeat
      refine Need.mk ceq_nil ?_
      repeat' first | (with_reducible first | refine wkI ?_ | exact ⟨⟩ | refine wkB (fun _ => ?_) fun _ => ?_ | refine wkT (fun _ => ?_) ?_ | refine wkL ?_) | ((with_reducible refine wkC ?_ ?_); exact CEq.refl _) | ((with_reducible fail_if_success first | constructor | show False); conv => whnf)
  rename_i h
  have h : ¬ newNo d := by
    simp only [Bool.or_eq_false_iff, Bool.not_eq_false', decide_eq_true_eq, decide_eq_false_iff_not] at h
    rintro (y | y)
    · exact y h.1
    · exact h.2 (by omega)
  have hz : d.flight = [] := List.eq_nil_of_length_eq_zero (by have : ¬ 0 < d.flight.length := fun y => h (.inr y); omega)
  refine CallVC.mk' (fun _ => S05.new_ok K.l w hw) (fun _ => .cons (.one (CEq.refl _)) .nil) ?_
  repeat' first | (with_reducible first | refine wkI ?_ | exact ⟨⟩ | refine wkB (fun _ => ?_) fun _ => ?_ | refine wkT (fun _ => ?_) ?_ | refine wkL ?_) | ((with_reducible refine wkC ?_ ?_); exact CEq.refl _) | ((with_reducible fail_if_success first | constructor | show False); conv => whnf)
  · rename_i g
    simp only [Bool.not_eq_true', decide_eq_false_iff_not] at g
    rw [show newS d w = (noS, S05.newE w) by unfold newS; rw [if_neg h, if_pos g]]
    repeat
      refine Need.mk ceq_nil ?_
      repeat' first | (with_reducible first | refine wkI ?_ | exact ⟨⟩ | refine wkB (fun _ => ?_) fun _ => ?_ | refine wkT (fun _ => ?_) ?_ | refine wkL ?_) | ((with_reducible refine wkC ?_ ?_); exact CEq.refl _) | ((with_reducible fail_if_success first | constructor | show False); conv => whnf)
  rename_i g
  simp only [Bool.not_eq_false', decide_eq_true_eq] at g
  rw [show newS d w = (⟨S05.newL w, List.replicate w.length [], d, []⟩, 0) by unfold newS; rw [if_neg h, if_neg (by rw [g]; simp)]]
  repeat' first | (with_reducible first | refine wkI ?_ | exact ⟨⟩ | refine wkB (fun _ => ?_) fun _ => ?_ | refine wkT (fun _ => ?_) ?_ | refine wkL ?_) | ((with_reducible refine wkC ?_ ?_); exact CEq.refl _) | ((with_reducible fail_if_success first | constructor | show False); conv => whnf)
  refine Need.mk (fun i hi j hj => trivial) ?_
  repeat' first | (with_reducible first | refine wkI ?_ | exact ⟨⟩ | refine wkB (fun _ => ?_) fun _ => ?_ | refine wkT (fun _ => ?_) ?_ | refine wkL ?_) | ((with_reducible refine wkC ?_ ?_); exact CEq.refl _) | ((with_reducible fail_if_success first | constructor | show False); conv => whnf)
  refine Need.mk ((nilsL fun i j => ⟨_, _, rfl⟩).ceq (by rw [Int.toNat_natCast]; simp)) ?_
  repeat' first | (with_reducible first | refine wkI ?_ | exact ⟨⟩ | refine wkB (fun _ => ?_) fun _ => ?_ | refine wkT (fun _ => ?_) ?_ | refine wkL ?_) | ((with_reducible refine wkC ?_ ?_); exact CEq.refl _) | ((with_reducible fail_if_success first | constructor | show False); conv => whnf)
  refine Need.mk ceq_nil ?_
  repeat' first | (with_reducible first | refine wkI ?_ | exact ⟨⟩ | refine wkB (fun _ => ?_) fun _ => ?_ | refine wkT (fun _ => ?_) ?_ | refine wkL ?_) | ((with_reducible refine wkC ?_ ?_); exact CEq.refl _) | ((with_reducible fail_if_success first | constructor | show False); conv => whnf)
theorem crashS_ok (K : KSd P F) (s : Sd) (keep : List Int) (S : SmallS s) (hk : keep.length ≤ 1000000) :
    FnOk P (F 183) [.many 9 (sdE s), .one (slL 1 intE keep)] [.many 9 (fun j => .im (sdE (crashS s keep) j))] := by
  refine fnOk K.d.k.m K.crash ?_
  have hl := S.l.1
  repeat' first | (with_reducible first | refine wkI ?_ | exact ⟨⟩ | refine wkB (fun _ => ?_) fun _ => ?_ | refine wkT (fun _ => ?_) ?_ | refine wkL ?_) | ((with_reducible refine wkC ?_ ?_); exact CEq.refl _) | ((with_reducible fail_if_success first | constructor | show False); conv => whnf)
  refine CallVC.mk' (fun _ => right_ok K s S) (fun _ => .cons ((mC9 (by rfl))) .nil) ?_
  repeat' first | (with_reducible first | refine wkI ?_ | exact ⟨⟩ | refine wkB (fun _ => ?_) fun _ => ?_ | refine wkT (fun _ => ?_) ?_ | refine wkL ?_) | ((with_reducible refine wkC ?_ ?_); exact CEq.refl _) | ((with_reducible fail_if_success first | constructor | show False); conv => whnf)
  · rename_i h
    simp only [Bool.not_eq_true', decide_eq_false_iff_not] at h
    rw [show crashS s keep = s from if_neg h]
    repeat' first | (with_reducible first | refine wkI ?_ | exact ⟨⟩ | refine wkB (fun _ => ?_) fun _ => ?_ | refine wkT (fun _ => ?_) ?_ | refine wkL ?_) | ((with_reducible refine wkC ?_ ?_); exact CEq.refl _) | ((with_reducible fail_if_success first | constructor | show False); conv => whnf)
  rename_i h
  simp only [Bool.not_eq_false', decide_eq_true_eq] at h
  rw [show crashS s keep = ⟨S05.newL (s.lanes.list.map (·.weight)), List.replicate s.lanes.list.length [], crashV s.dev keep, []⟩ from if_pos h]
  refine LoopVC.inv (fun i : Nat => i ≤ s.lanes.list.length) (fun i => stL [(1, .c (slL 1 intE keep)), (2, .va 2 0 0), (4, .va 4 0 0), (5, .os 18 0 1 0 (s.lanes.list.length : Int).toNat), (21, .c (slL 3 S05.lnE s.lanes.list)), (22, .c (.int .i64 s.lanes.list.length)), (23, .c (.int .i64 i))]
    [(2, sV s), (4, vE [.nil 3, .c (.int .i64 0), .c (.bool false), .nil 1, .nil 1, .nil 2, .c (.int .i64 0), .nil 4, .nil 5]), (18, ⟨1, (s.lanes.list.length : Int).toNat, .dat fun r _ => .int .i64 (if r < i then (s.lanes.list.getD r default).weight else 0), false, true⟩)]) (fun i => s.lanes.list.length - i) 0 (Nat.zero_le _) ?_ ?_
  · (refine Le.of ?_ ?_ <;> repeat' first | exact trivial | exact CEq.refl _ | exact rfl | exact cI (by push_cast; first | rfl | omega) | exact SubE.dat fun _ _ _ _ => CEq.refl _ | refine SubE.varN ?_ | refine Exists.intro _ (And.intro rfl ?_) | refine And.intro ?_ ?_)
    exact SubE.dat fun r hr j hj => by
      rw [if_neg (Nat.not_lt_zero r)]
      obtain rfl : j = 0 := by (have hj : j < 1 := hj; omega)
      exact CEq.refl _
  rintro Q hQ i hi
  repeat' first | (with_reducible first | refine wkI ?_ | exact ⟨⟩ | refine wkB (fun _ => ?_) fun _ => ?_ | refine wkT (fun _ => ?_) ?_ | refine wkL ?_) | ((with_reducible refine wkC ?_ ?_); exact CEq.refl _) | ((with_reducible fail_if_success first | constructor | show False); conv => whnf)
  · rename_i g
    have g : i < s.lanes.list.length := by have := of_decide_eq_true g; omega
    repeat' first | (with_reducible first | refine wkI ?_ | exact ⟨⟩ | refine wkB (fun _ => ?_) fun _ => ?_ | refine wkT (fun _ => ?_) ?_ | refine wkL ?_) | ((with_reducible refine wkC ?_ ?_); exact CEq.refl _) | ((with_reducible fail_if_success first | constructor | show False); conv => whnf)
    refine LoopEnd.mk ⟨i + 1, g, by omega, ?_⟩
    clear hQ
    (refine Le.of ?_ ?_ <;> repeat' first | exact trivial | exact CEq.refl _ | exact rfl | exact cI (by push_cast; first | rfl | omega) | exact SubE.dat fun _ _ _ _ => CEq.refl _ | refine SubE.varN ?_ | refine Exists.intro _ (And.intro rfl ?_) | refine And.intro ?_ ?_)
    exact SubE.dat fun r hr j hj => by
      obtain rfl : j = 0 := by (have hj : j < 1 := hj; omega)
      rw [updC_at]
      by_cases e : r = i
      · rw [if_pos ⟨by rw [e]; rfl, rfl⟩, if_pos (by omega), e]; exact CEq.refl _
      · rw [if_neg (fun x => e x.1), show (if r < i + 1 then (s.lanes.list.getD r default).weight else 0) = (if r < i then (s.lanes.list.getD r default).weight else 0) by (by_cases h2 : r < i; rw [if_pos h2, if_pos (by omega)]; rw [if_neg h2, if_neg (by omega)])]; exact CEq.refl _
  · rename_i g
    have g : i = s.lanes.list.length := by have := of_decide_eq_false g; omega
    refine Out.mk (hQ _ _ ?_)
    clear hQ
    repeat' first | (with_reducible first | refine wkI ?_ | exact ⟨⟩ | refine wkB (fun _ => ?_) fun _ => ?_ | refine wkT (fun _ => ?_) ?_ | refine wkL ?_) | ((with_reducible refine wkC ?_ ?_); exact CEq.refl _) | ((with_reducible fail_if_success first | constructor | show False); conv => whnf)
    refine CallVC.mk' (fun _ => S05.new_ok K.l (s.lanes.list.map (·.weight)) (by simpa using hl)) (fun _ => .cons (.one (IsL.ceq (l := s.lanes.list.map (·.weight)) (fun r hr j hj => by
      have hr : r < s.lanes.list.length := by simpa using hr
      show CEq (.int .i64 (if addN 0 r < i then (s.lanes.list.getD (addN 0 r) default).weight else 0)) _
      rw [addN_eq, Nat.zero_add, if_pos (by omega)]
      exact eI (by rw [getD_eq (show r < (s.lanes.list.map (·.weight)).length by simpa using hr), getD_eq hr]; simp)) (by rw [Int.toNat_natCast]; simp))) .nil) ?_
    repeat' first | (with_reducible first | refine wkI ?_ | exact ⟨⟩ | refine wkB (fun _ => ?_) fun _ => ?_ | refine wkT (fun _ => ?_) ?_ | refine wkL ?_) | ((with_reducible refine wkC ?_ ?_); exact CEq.refl _) | ((with_reducible fail_if_success first | constructor | show False); conv => whnf)
    refine CallVC.mk' (fun _ => crashV_ok K.d s.dev keep S.v hk) (fun _ => .cons ((mC4 (by rfl))) (.cons (.one (CEq.refl _)) .nil)) ?_
    repeat' first | (with_reducible first | refine wkI ?_ | exact ⟨⟩ | refine wkB (fun _ => ?_) fun _ => ?_ | refine wkT (fun _ => ?_) ?_ | refine wkL ?_) | ((with_reducible refine wkC ?_ ?_); exact CEq.refl _) | ((with_reducible fail_if_success first | constructor | show False); conv => whnf)
    refine Need.mk (fun i hi j hj => trivial) ?_
    repeat' first | (with_reducible first | refine wkI ?_ | exact ⟨⟩ | refine wkB (fun _ => ?_) fun _ => ?_ | refine wkT (fun _ => ?_) ?_ | refine wkL ?_) | ((with_reducible refine wkC ?_ ?_); exact CEq.refl _) | ((with_reducible fail_if_success first | constructor | show False); conv => whnf)
    refine Need.mk ((nilsL fun i j => ⟨_, _, rfl⟩).ceq (by rw [Int.toNat_natCast]; simp)) ?_
    repeat' first | (with_reducible first | refine wkI ?_ | exact ⟨⟩ | refine wkB (fun _ => ?_) fun _ => ?_ | refine wkT (fun _ => ?_) ?_ | refine wkL ?_) | ((with_reducible refine wkC ?_ ?_); exact CEq.refl _) | ((with_reducible fail_if_success first | constructor | show False); conv => whnf)
    refine Need.mk ceq_nil ?_
    repeat' first | (with_reducible first | refine wkI ?_ | exact ⟨⟩ | refine wkB (fun _ => ?_) fun _ => ?_ | refine wkT (fun _ => ?_) ?_ | refine wkL ?_) | ((with_reducible refine wkC ?_ ?_); exact CEq.refl _) | ((with_reducible fail_if_success first | constructor | show False); conv => whnf)
end
end Lk.S06
namespace Lk.S06
open Go Lk Lk.C Lk.S03 Lk.S04
def noJ : Jb := ⟨0, 0, 0, [], 0⟩
def withoutJ (l : List Jb) (i : Nat) : List Jb := l.take i ++ l.drop (i + 1)
def doneNo (s : Sd) (i : Int) : Prop := ¬ rightS s ∨ i < 0 ∨ (s.out.length : Int) ≤ i
instance (s : Sd) (i : Int) : Decidable (doneNo s i) := by unfold doneNo; infer_instance
def doneX (s : Sd) (x : Jb) (l : List Jb) (y : Dv × Rq × Int) : Sd × Jb × Int × Bool :=
  if y.2.2 = 8 ∧ x.tries < 3 ∧ y.1.next < 2147483647 then (⟨s.lanes, s.jobs, (subm y.1 x.kind x.page x.data).1, l ++ [⟨x.who, x.kind, x.page, x.data, x.tries + 1⟩]⟩, noJ, 0, false)
  else (⟨s.lanes, s.jobs, y.1, l⟩, ⟨x.who, x.kind, x.page, y.2.1.data, x.tries⟩, y.2.2, true)
def doneS (s : Sd) (i : Int) (fault : Bool) : Sd × Jb × Int × Bool :=
  if doneNo s i then (s, noJ, 1, false) else doneX s (s.out.getD i.toNat default) (withoutJ s.out i.toNat) (finD s.dev i fault)
section
variable {P : Program} {F : Nat → Nat}
theorem done_ok (K : KSd P F) (s : Sd) (at_ : Int) (fault : Bool) (S : SmallS s) :
    FnOk P (F 179) [.many 9 (sdE s), .one (.int .i64 at_), .one (.bool fault)] [.many 9 (fun j => .im (sdE (doneS s at_ fault).1 j)), .many 5 (fun j => .im (jbE (doneS s at_ fault).2.1 j)), .one (.im (.int .i64 (doneS s at_ fault).2.2.1)), .one (.im (.bool (doneS s at_ fault).2.2.2))] := by
  refine fnOk K.d.k.m K.done ?_
  have ho := S.o
  repeat' first | (with_reducible first | refine wkI ?_ | exact ⟨⟩ | refine wkB (fun _ => ?_) fun _ => ?_ | refine wkT (fun _ => ?_) ?_ | refine wkL ?_) | ((with_reducible refine wkC ?_ ?_); exact CEq.refl _) | ((with_reducible fail_if_success first | constructor | show False); conv => whnf)
  refine CallVC.mk' (fun _ => right_ok K s S) (fun _ => .cons ((mC9 (by rfl))) .nil) ?_
  repeat' first | (with_reducible first | refine wkI ?_ | exact ⟨⟩ | refine wkB (fun _ => ?_) fun _ => ?_ | refine wkT (fun _ => ?_) ?_ | refine wkL ?_) | ((with_reducible refine wkC ?_ ?_); exact CEq.refl _) | ((with_reducible fail_if_success first | constructor | show False); conv => whnf)
  · rename_i h
    have h : doneNo s at_ := by
      simp only [Bool.or_eq_true, Bool.not_eq_true', decide_eq_false_iff_not, decide_eq_true_eq, or_assoc] at h
      exact h
    rw [show doneS s at_ fault = (s, noJ, 1, false) from if_pos h]
    repeat' first | (with_reducible first | refine wkI ?_ | exact ⟨⟩ | refine wkB (fun _ => ?_) fun _ => ?_ | refine wkT (fun _ => ?_) ?_ | refine wkL ?_) | ((with_reducible refine wkC ?_ ?_); exact CEq.refl _) | ((with_reducible fail_if_success first | constructor | show False); conv => whnf)
  rename_i h
  have h : ¬ doneNo s at_ := by
    simp only [Bool.or_eq_false_iff, Bool.not_eq_false', decide_eq_false_iff_not, decide_eq_true_eq] at h
    rintro (x | x | x)
    · exact x h.1.1
    · exact h.1.2 x
    · exact h.2 x
  have hr : rightS s := Classical.byContradiction fun x => h (.inl x)
  have ha0 : 0 ≤ at_ := by have : ¬ at_ < 0 := fun x => h (.inr (.inl x)); omega
  obtain ⟨i, rfl⟩ : ∃ i : Nat, at_ = i := ⟨at_.toNat, by omega⟩
  have hi : i < s.out.length := by have : ¬ (s.out.length : Int) ≤ i := fun x => h (.inr (.inr x)); omega
  have hod := S.od _ (getD_mem hi)
  have hfr : rightV (finD s.dev i fault).1 := by
    refine fin_right ?_
    rintro (x | x | x)
    · exact x hr.1.2
    · omega
    · have := hr.2.1.2; omega
  rw [show doneS s i fault = doneX s (s.out.getD i default) (withoutJ s.out i) (finD s.dev i fault) by unfold doneS; rw [if_neg h, Int.toNat_natCast]]
  repeat' first | (with_reducible first | refine wkI ?_ | exact ⟨⟩ | refine wkB (fun _ => ?_) fun _ => ?_ | refine wkT (fun _ => ?_) ?_ | refine wkL ?_) | ((with_reducible refine wkC ?_ ?_); exact CEq.refl _) | ((with_reducible fail_if_success first | constructor | show False); conv => whnf)
  refine CallVC.mk' (fun _ => S04.finish_ok K.d s.dev i fault S.v) (fun _ => .cons ((mC4 (by rfl))) (.cons (.one (CEq.refl _)) (.cons (.one (CEq.refl _)) .nil))) ?_
  rw [Int.toNat_natCast]
  repeat' first | (with_reducible first | refine wkI ?_ | exact ⟨⟩ | refine wkB (fun _ => ?_) fun _ => ?_ | refine wkT (fun _ => ?_) ?_ | refine wkL ?_) | ((with_reducible refine wkC ?_ ?_); exact CEq.refl _) | ((with_reducible fail_if_success first | constructor | show False); conv => whnf)
  let f0 : Nat → Nat → Cell := fun r j => jbE (s.out.getD r default) j
  let f1 : Nat → Nat → Cell := fun r j => jbE (s.out.getD (addN (i + 1) r) default) j
  refine CallVC.mk' (fun _ => sl_Concat_sched_Job_ok K.d.k.m K.concat K.grow i (s.out.length - (i + 1)) f0 f1 (by omega)) (fun _ => .cons (.one (two_ceq (CEq.refl _) (CEq.refl _))) .nil) ?_
  have hl1 : i + (s.out.length - (i + 1)) = (withoutJ s.out i).length := by unfold withoutJ; rw [List.length_append, List.length_take, List.length_drop, Nat.min_eq_left (by omega)]
  have hisl : IsL 5 jbE (withoutJ s.out i) (appC f0 i f1) := by
    have e0 : IsL 5 jbE (s.out.take i) f0 := fun r hr j hj => by
      have hr : r < i := by simp at hr; omega
      rw [getD_eq (show r < (s.out.take i).length by simp; omega), List.getElem_take]
      show CEq (jbE (s.out.getD r default) j) _
      rw [getD_eq (show r < s.out.length by omega)]
      exact CEq.refl _
    have e1 : IsL 5 jbE (s.out.drop (i + 1)) f1 := fun r hr j hj => by
      have hr : i + 1 + r < s.out.length := by simp at hr; omega
      rw [getD_eq (show r < (s.out.drop (i + 1)).length by simp; omega), List.getElem_drop]
      show CEq (jbE (s.out.getD (addN (i + 1) r) default) j) _
      rw [addN_eq, getD_eq hr]
      exact CEq.refl _
    exact e0.app (by rw [List.length_take, Nat.min_eq_left (by omega)]) e1
  have hceq := hisl.off.ceq hl1
  have hot := (hr.2.2.2 i hi).2
  clear_value f0 f1
  generalize s.out.getD i default = x at *
  have hn0 : i + (s.out.length - (i + 1)) ≤ 1000 := by have := hr.2.1.2; have := hr.1.2.2.1.2.2; omega
  generalize i + (s.out.length - (i + 1)) = nw at *
  generalize withoutJ s.out i = lw at *
  generalize finD s.dev i fault = y at *
  repeat' first | (with_reducible first | refine wkI ?_ | exact ⟨⟩ | refine wkB (fun _ => ?_) fun _ => ?_ | refine wkT (fun _ => ?_) ?_ | refine wkL ?_) | ((with_reducible refine wkC ?_ ?_); exact CEq.refl _) | ((with_reducible fail_if_success first | constructor | show False); conv => whnf)
  · rename_i g
    simp only [Bool.and_eq_true, decide_eq_true_eq] at g
    rw [show doneX s x lw y = (⟨s.lanes, s.jobs, (subm y.1 x.kind x.page x.data).1, lw ++ [⟨x.who, x.kind, x.page, x.data, x.tries + 1⟩]⟩, noJ, 0, false) from if_pos ⟨g.1.1, g.1.2, g.2⟩]
    refine CallVC.mk' (fun _ => submit_ok K.d y.1 x.kind x.page x.data hfr.small (by omega)) (fun _ => .cons ((mC4 (by rfl))) (.cons (.one (CEq.refl _)) (.cons (.one (CEq.refl _)) (.cons (.one (CEq.refl _)) .nil)))) ?_
    repeat' first | (with_reducible first | refine wkI ?_ | exact ⟨⟩ | refine wkB (fun _ => ?_) fun _ => ?_ | refine wkT (fun _ => ?_) ?_ | refine wkL ?_) | ((with_reducible refine wkC ?_ ?_); exact CEq.refl _) | ((with_reducible fail_if_success first | constructor | show False); conv => whnf)
    refine Need.mk ((((hisl.app hl1 (isL_one (x := ⟨x.who, x.kind, x.page, x.data, x.tries + 1⟩) rfl rfl rfl rfl rfl))).off).ceq (by simp; omega)) ?_
    repeat' first | (with_reducible first | refine wkI ?_ | exact ⟨⟩ | refine wkB (fun _ => ?_) fun _ => ?_ | refine wkT (fun _ => ?_) ?_ | refine wkL ?_) | ((with_reducible refine wkC ?_ ?_); exact CEq.refl _) | ((with_reducible fail_if_success first | constructor | show False); conv => whnf)
  · rename_i g
    rw [show doneX s x lw y = (⟨s.lanes, s.jobs, y.1, lw⟩, ⟨x.who, x.kind, x.page, y.2.1.data, x.tries⟩, y.2.2, true) from if_neg (fun z => by rw [decide_eq_true z.1, decide_eq_true z.2.1, decide_eq_true z.2.2] at g; cases g)]
    repeat' first | (with_reducible first | refine wkI ?_ | exact ⟨⟩ | refine wkB (fun _ => ?_) fun _ => ?_ | refine wkT (fun _ => ?_) ?_ | refine wkL ?_) | ((with_reducible refine wkC ?_ ?_); exact CEq.refl _) | ((with_reducible fail_if_success first | constructor | show False); conv => whnf)
    refine Need.mk hceq ?_
    repeat' first | (with_reducible first | refine wkI ?_ | exact ⟨⟩ | refine wkB (fun _ => ?_) fun _ => ?_ | refine wkT (fun _ => ?_) ?_ | refine wkL ?_) | ((with_reducible refine wkC ?_ ?_); exact CEq.refl _) | ((with_reducible fail_if_success first | constructor | show False); conv => whnf)
end
end Lk.S06
namespace Lk.S06
open Go Lk Lk.C Lk.S03 Lk.S04
def pmpC (s : Sd) : Prop := s.dev.flight.length < 4 ∧ s.dev.next < 2147483647 ∧ S05.nextOk s.lanes
instance (s : Sd) : Decidable (pmpC s) := by unfold pmpC; infer_instance
def pw (s : Sd) : Nat := (S05.nextA s.lanes).toNat
def pj (s : Sd) : Jb := (s.jobs.getD (pw s) default).getD 0 default
def pmp1 (s : Sd) : Sd :=
  ⟨S05.nextL s.lanes, s.jobs.set (pw s) ((s.jobs.getD (pw s) default).drop 1), (subm s.dev (pj s).kind (pj s).page (pj s).data).1, s.out ++ [⟨(pj s).who, (pj s).kind, (pj s).page, (pj s).data, 1⟩]⟩
def pmpN : Nat → Sd → Sd
  | 0, s => s
  | n + 1, s => if pmpC s then pmpN n (pmp1 s) else s
def pumpS (s : Sd) : Sd := if rightS s then pmpN 4 s else s
def sameC (l m : S05.Ls) : Prop := m.list.length = l.list.length ∧ ∀ i, i < l.list.length → (m.list.getD i default).costs = (l.list.getD i default).costs ∧ (m.list.getD i default).weight = (l.list.getD i default).weight
theorem next_costs {l : S05.Ls} (h : S05.nextOk l) : S05.right (S05.nextL l) ∧ (S05.nextL l).list.length = l.list.length ∧ ∃ k : Nat, S05.nextA l = k ∧ k < l.list.length ∧ (l.list.getD k default).costs ≠ [] ∧
    ((S05.nextL l).list.getD k default).costs = (l.list.getD k default).costs.drop 1 ∧ S05.nextC l = (l.list.getD k default).costs.getD 0 default ∧
    (∀ i, i < l.list.length → i ≠ k → ((S05.nextL l).list.getD i default).costs = (l.list.getD i default).costs) ∧ ∀ i, i < l.list.length → ((S05.nextL l).list.getD i default).weight = (l.list.getD i default).weight := by
  have key := S05.nx_ind (fun m => sameC l m) (fun m c => m.list.length = l.list.length ∧ ∃ k : Nat, m.at_ = k ∧ k < l.list.length ∧ (l.list.getD k default).costs ≠ [] ∧
    (m.list.getD k default).costs = (l.list.getD k default).costs.drop 1 ∧ c = (l.list.getD k default).costs.getD 0 default ∧
    (∀ i, i < l.list.length → i ≠ k → (m.list.getD i default).costs = (l.list.getD i default).costs) ∧ ∀ i, i < l.list.length → (m.list.getD i default).weight = (l.list.getD i default).weight)
    (fun a b ha hw hj ht => ?_) (fun a ha hj hc hg => ?_) h.1 h.2 ⟨rfl, fun i hi => ⟨rfl, rfl⟩⟩
  · obtain ⟨k1, k2, k3⟩ := key
    have e1 : S05.nextL l = (S05.nx l).1 := if_pos h
    have e2 : S05.nextA l = (S05.nx l).1.at_ := if_pos h
    have e3 : S05.nextC l = (S05.nx l).2 := if_pos h
    rw [e1, e2, e3]
    exact ⟨k1, k2, k3⟩
  · have hb : ∃ dd, b = S05.adv a dd := by
      unfold S05.turn at ht
      split at ht
      · cases ht; exact ⟨_, rfl⟩
      · split at ht
        · cases ht; exact ⟨_, rfl⟩
        · cases ht
    obtain ⟨dd, rfl⟩ := hb
    refine ⟨(S05.adv_len dd).trans hj.1, fun i hi => ?_⟩
    have hi' : i < a.list.length := by rw [hj.1]; exact hi
    rw [S05.adv_at hi']
    by_cases e : i = S05.pos a
    · rw [if_pos e]
      have := hj.2 i hi
      subst e
      exact this
    · rw [if_neg e]; exact hj.2 i hi
  · have hp := ha.pos
    have hpl : S05.pos a < l.list.length := by rw [← hj.1]; exact hp.1
    have hcur : (S05.cur a).costs = (l.list.getD (S05.pos a) default).costs := (hj.2 _ hpl).1
    refine ⟨S05.srv_len.trans hj.1, S05.pos a, hp.2.symm, hpl, by rw [← hcur]; exact hc, ?_, by unfold S05.hd0; rw [hcur], fun i hi hne => ?_, fun i hi => ?_⟩
    · rw [S05.srv_at hp.1, if_pos rfl, ← hcur]
    · rw [S05.srv_at (by rw [hj.1]; exact hi), if_neg hne]; exact (hj.2 i hi).1
    · rw [S05.srv_at (by rw [hj.1]; exact hi)]
      by_cases e : i = S05.pos a
      · rw [if_pos e]; subst e; exact (hj.2 _ hi).2
      · rw [if_neg e]; exact (hj.2 i hi).2
theorem set_at {α : Type} [Inhabited α] {l : List α} {k i : Nat} {x : α} (hk : k < l.length) : (l.set k x).getD i default = if k = i then x else l.getD i default := set_getD hk
theorem ap_lt {α : Type} [Inhabited α] {l : List α} {x : α} {i : Nat} (h : i < l.length) : (l ++ [x]).getD i default = l.getD i default := by
  rw [List.getD_eq_getElem?_getD, List.getElem?_append_left h, ← List.getD_eq_getElem?_getD]
theorem ap_at {α : Type} [Inhabited α] {l : List α} {x : α} : (l ++ [x]).getD l.length default = x := by
  rw [List.getD_eq_getElem?_getD, List.getElem?_append_right (Nat.le_refl _), Nat.sub_self]; rfl
theorem pj_facts {s : Sd} (h : rightS s) (hc : pmpC s) : pw s < s.jobs.length ∧ (pw s : Int) = S05.nextA s.lanes ∧ (s.jobs.getD (pw s) default) ≠ [] ∧ jobOk (pj s) ∧ (pj s).who = pw s ∧ (pj s).tries = 0 ∧
    subm s.dev (pj s).kind (pj s).page (pj s).data = (⟨s.dev.disk, s.dev.next + 1, s.dev.flight ++ [⟨s.dev.next, (pj s).kind, (pj s).page, (pj s).data⟩]⟩, s.dev.next, 0) := by
  obtain ⟨h1, h2, h3⟩ := hc
  obtain ⟨n1, n2, k, n3, n4, n5, n6, n7, n8, n9⟩ := next_costs h3
  have hk : pw s = k := by unfold pw; rw [n3]; omega
  have hkj : k < s.jobs.length := by have := h.2.1.1; omega
  have hj := h.2.2.1 k hkj
  have hne : s.jobs.getD k default ≠ [] := fun e => n5 (List.eq_nil_of_length_eq_zero (by rw [← hj.1, e]; rfl))
  have hpos : 0 < (s.jobs.getD k default).length := by
    rcases Nat.eq_zero_or_pos (s.jobs.getD k default).length with e | e
    · exact absurd (List.eq_nil_of_length_eq_zero e) hne
    · exact e
  have h0 := hj.2 0 hpos
  rw [hk]
  refine ⟨hkj, n3.symm, hne, ?_⟩
  unfold pj
  rw [hk]
  refine ⟨h0.1.1, h0.2.1, h0.2.2, ?_⟩
  rw [sub_yes h.1.2 h2 h0.1.1, if_neg (by omega)]
theorem pmp1_right {s : Sd} (h : rightS s) (hc : pmpC s) : rightS (pmp1 s) := by
  obtain ⟨p1, p2, p3, p4, p5, p6, p7⟩ := pj_facts h hc
  obtain ⟨h1, h2, h3⟩ := hc
  obtain ⟨n1, n2, k, n3, n4, n5, n6, n7, n8, n9⟩ := next_costs h3
  have hk : pw s = k := by omega
  have hsr := sub_right h.1.2 h2 p4 h1
  unfold pmp1
  rw [p7]
  refine ⟨⟨n1, hsr⟩, ⟨by rw [List.length_set, n2]; exact h.2.1.1, by rw [List.length_append, List.length_append, h.2.1.2]; rfl⟩, fun i hi => ?_, fun i hi => ?_⟩
  · have hi : i < s.jobs.length := by rwa [List.length_set] at hi
    have hj := h.2.2.1 i hi
    show okJ i ((S05.nextL s.lanes).list.getD i default).costs ((s.jobs.set (pw s) _).getD i default)
    rw [set_at p1]
    by_cases e : pw s = i
    · rw [if_pos e]
      have ek : i = k := by omega
      subst ek
      rw [n6, e]
      refine ⟨by rw [List.length_drop, List.length_drop, hj.1], fun m hm => ?_⟩
      rw [List.length_drop] at hm
      have hm1 : m + 1 < (s.jobs.getD i default).length := by omega
      have := hj.2 (m + 1) hm1
      have g1 : ((s.jobs.getD i default).drop 1).getD m default = (s.jobs.getD i default).getD (m + 1) default := by rw [List.getD_eq_getElem?_getD, List.getElem?_drop, ← List.getD_eq_getElem?_getD, Nat.add_comm]
      have g2 : ((s.lanes.list.getD i default).costs.drop 1).getD m default = (s.lanes.list.getD i default).costs.getD (m + 1) default := by rw [List.getD_eq_getElem?_getD, List.getElem?_drop, ← List.getD_eq_getElem?_getD, Nat.add_comm]
      rw [g1, g2]
      exact this
    · rw [if_neg e, n8 i (by have := h.2.1.1; omega) (by omega)]
      exact hj
  · rw [List.length_append] at hi
    have hi : i < s.out.length + 1 := hi
    have hlo := h.2.1.2
    show okO (s.jobs.set _ _).length ((s.out ++ [_]).getD i default) ((s.dev.flight ++ [_]).getD i default)
    rw [List.length_set]
    by_cases e : i < s.out.length
    · rw [ap_lt e, ap_lt (show i < s.dev.flight.length by omega)]
      exact h.2.2.2 i e
    · obtain rfl : i = s.out.length := by omega
      rw [ap_at]
      rw [hlo, ap_at]
      exact ⟨⟨rfl, rfl, rfl⟩, ⟨by show 0 ≤ (pj s).who; omega, by show (pj s).who < _; omega⟩, by show (1 : Int) ≤ 1; omega, by show (1 : Int) ≤ 3; omega⟩
theorem pmp1_flight {s : Sd} (h : rightS s) (hc : pmpC s) : (pmp1 s).dev.flight.length = s.dev.flight.length + 1 := by
  obtain ⟨p1, p2, p3, p4, p5, p6, p7⟩ := pj_facts h hc
  unfold pmp1
  rw [p7]
  show (s.dev.flight ++ [_]).length = _
  simp
theorem pmpN_more : ∀ {n m : Nat} {s : Sd}, rightS s → 4 ≤ n + s.dev.flight.length → 4 ≤ m + s.dev.flight.length → pmpN n s = pmpN m s
  | 0, 0, s, _, _, _ => rfl
  | 0, m + 1, s, h, hn, _ => by
    show s = if pmpC s then _ else s
    rw [if_neg (fun x => by have := x.1; omega)]
  | n + 1, 0, s, h, _, hm => by
    show (if pmpC s then _ else s) = s
    rw [if_neg (fun x => by have := x.1; omega)]
  | n + 1, m + 1, s, h, hn, hm => by
    show (if pmpC s then pmpN n (pmp1 s) else s) = if pmpC s then pmpN m (pmp1 s) else s
    by_cases hc : pmpC s
    · rw [if_pos hc, if_pos hc]
      have hf := pmp1_flight h hc
      exact pmpN_more (pmp1_right h hc) (by omega) (by omega)
    · rw [if_neg hc, if_neg hc]
theorem pmpN_step {s : Sd} (h : rightS s) (hc : pmpC s) : pmpN 4 s = pmpN 4 (pmp1 s) := by
  have hf := pmp1_flight h hc
  show (if pmpC s then pmpN 3 (pmp1 s) else s) = _
  rw [if_pos hc]
  exact pmpN_more (pmp1_right h hc) (by omega) (by omega)
theorem pmpN_end {s : Sd} (hc : ¬ pmpC s) : pmpN 4 s = s := if_neg hc
theorem pmpN_right : ∀ {n : Nat} {s : Sd}, rightS s → rightS (pmpN n s)
  | 0, _, h => h
  | n + 1, s, h => by
    show rightS (if pmpC s then pmpN n (pmp1 s) else s)
    split
    · rename_i hc; exact pmpN_right (pmp1_right h hc)
    · exact h
theorem pump_right {s : Sd} (h : rightS s) : rightS (pumpS s) := by unfold pumpS; rw [if_pos h]; exact pmpN_right h
end Lk.S06
namespace Lk.S06
open Go Lk Lk.C Lk.S03 Lk.S04
def wtg (l : List (List Jb)) : Nat := (l.map List.length).sum
theorem wtg_cons {x : List Jb} {l : List (List Jb)} : wtg (x :: l) = x.length + wtg l := by unfold wtg; simp
theorem wtg_set : ∀ {l : List (List Jb)} {k : Nat} {y : List Jb}, k < l.length → wtg (l.set k y) + (l.getD k default).length = wtg l + y.length
  | x :: l, 0, y, _ => by
    show wtg (y :: l) + x.length = _
    rw [wtg_cons, wtg_cons]; omega
  | x :: l, k + 1, y, h => by
    have h : k + 1 < l.length + 1 := h
    have ih := wtg_set (l := l) (k := k) (y := y) (by omega)
    show wtg (x :: l.set k y) + (l.getD k default).length = _
    rw [wtg_cons, wtg_cons]; omega
  | [], k, y, h => absurd h (Nat.not_lt_zero _)
theorem wo_getD {α : Type} [Inhabited α] {l : List α} {a i : Nat} (ha : a < l.length) : (l.take a ++ l.drop (a + 1)).getD i default = l.getD (if i < a then i else i + 1) default := by
  rw [List.getD_eq_getElem?_getD, List.getD_eq_getElem?_getD, List.getElem?_append, List.length_take, Nat.min_eq_left (Nat.le_of_lt ha)]
  by_cases e : i < a
  · rw [if_pos e, if_pos e, List.getElem?_take_of_lt e]
  · rw [if_neg e, if_neg e, List.getElem?_drop, show a + 1 + (i - a) = i + 1 by omega]
theorem wo_length {α : Type} {l : List α} {a : Nat} (ha : a < l.length) : (l.take a ++ l.drop (a + 1)).length = l.length - 1 := by
  rw [List.length_append, List.length_take, List.length_drop]; omega
theorem pushX_right {l : S05.Ls} {k : Nat} {c : Int} (h : S05.right l) (hk : k < l.list.length) (hc : 1 ≤ c ∧ c ≤ 8) (hl : (l.list.getD k default).costs.length < 200) :
    S05.right (S05.pushX l k c) ∧ (S05.pushX l k c).list.length = l.list.length ∧
    (∀ i, i < l.list.length → (S05.pushX l k c).list.getD i default = if i = k then ⟨(l.list.getD k default).weight, (l.list.getD k default).deficit, (l.list.getD k default).costs ++ [c]⟩ else l.list.getD i default) := by
  have hlen : (S05.pushX l k c).list.length = l.list.length := List.length_set ..
  have hat : ∀ i, i < l.list.length → (S05.pushX l k c).list.getD i default = if i = k then ⟨(l.list.getD k default).weight, (l.list.getD k default).deficit, (l.list.getD k default).costs ++ [c]⟩ else l.list.getD i default := fun i hi => setL_getD hi
  refine ⟨⟨by rw [hlen]; exact h.1, by rw [hlen]; exact h.2.1, fun i hi => ?_⟩, hlen, hat⟩
  rw [hlen] at hi
  have hr := h.2.2 i hi
  have hm : S05.mst (S05.pushX l k c) i = S05.mst l i := rfl
  rw [hm, hat i hi]
  by_cases e : i = k
  · subst e
    rw [if_pos rfl]
    refine ⟨hr.1, hr.2.1, ?_, fun x hx => ?_⟩
    · show ((l.list.getD i default).costs ++ [c]).length ≤ 200
      rw [List.length_append]; show (l.list.getD i default).costs.length + 1 ≤ 200; omega
    · rcases List.mem_append.1 hx with hx | hx
      · exact hr.2.2.2 x hx
      · rw [List.mem_singleton.1 hx]; exact hc
  · rw [if_neg e]; exact hr
theorem ask_no {s : Sd} {x : Jb} (h : (askS s x).2 ≠ 0) : (askS s x).1 = s := by
  unfold askS at *
  split at h
  · rename_i e; rw [if_pos e]
  · rename_i e
    rw [if_neg e]
    split at h
    · rename_i e; rw [if_pos e]
    · exact absurd rfl h
structure AskY (s : Sd) (x : Jb) : Prop where
  no : ¬ askNo s x
  r : rightS s
  k : ∃ k : Nat, x.who = k ∧ k < s.jobs.length ∧ (s.jobs.getD k default).length < 200 ∧ (askS s x).1 = ⟨S05.pushX s.lanes k (cost x.kind), s.jobs.set k (s.jobs.getD k default ++ [x]), s.dev, s.out⟩
  t : x.tries = 0
  j : jobOk x
theorem ask_yes {s : Sd} {x : Jb} (h : (askS s x).2 = 0) : AskY s x := by
  have hn : ¬ askNo s x := fun e => by unfold askS at h; rw [if_pos e] at h; cases h
  have hr : rightS s := Classical.byContradiction fun y => hn (.inl y)
  have hw0 : 0 ≤ x.who := by have : ¬ x.who < 0 := fun y => hn (.inr (.inr (.inl y))); omega
  have hw1 : x.who < s.jobs.length := by have : ¬ (s.jobs.length : Int) ≤ x.who := fun y => hn (.inr (.inr (.inr (.inl y)))); omega
  have hl : ¬ 200 ≤ (s.jobs.getD x.who.toNat default).length := fun e => by unfold askS at h; rw [if_neg hn, if_pos e] at h; cases h
  refine ⟨hn, hr, ⟨x.who.toNat, by omega, by omega, by omega, by unfold askS; rw [if_neg hn, if_neg hl]⟩, ?_, ?_⟩
  · exact Classical.byContradiction fun y => hn (.inr (.inl y))
  · exact Classical.byContradiction fun y => hn (.inr (.inr (.inr (.inr y))))
theorem cost_bd {x : Jb} (h : jobOk x) : 1 ≤ cost x.kind ∧ cost x.kind ≤ 8 := by
  unfold cost
  rcases h with y | y | y <;> simp [y.1]
theorem ask_right {s : Sd} {x : Jb} (h : rightS s) : rightS (askS s x).1 := by
  by_cases e : (askS s x).2 = 0
  · obtain ⟨a1, a2, ⟨k, k1, k2, k3, k4⟩, a4, a5⟩ := ask_yes e
    rw [k4]
    have hlen := h.2.1.1
    have hjk := h.2.2.1 k k2
    obtain ⟨p1, p2, p3⟩ := pushX_right h.1.1 (k := k) (by omega) (cost_bd a5) (by have := hjk.1; omega)
    refine ⟨⟨p1, h.1.2⟩, ⟨by show (s.jobs.set _ _).length = (S05.pushX _ _ _).list.length; rw [List.length_set, p2]; exact hlen, h.2.1.2⟩, fun i hi => ?_, fun i hi => ?_⟩
    · have hi : i < s.jobs.length := by rwa [List.length_set] at hi
      show okJ i ((S05.pushX s.lanes k (cost x.kind)).list.getD i default).costs ((s.jobs.set k _).getD i default)
      rw [p3 i (by omega), set_at k2]
      by_cases e : k = i
      · rw [if_pos e.symm, if_pos e]
        subst e
        refine ⟨by rw [List.length_append, List.length_append, hjk.1]; rfl, fun m hm => ?_⟩
        rw [List.length_append] at hm
        have hm : m < (s.jobs.getD k default).length + 1 := hm
        show (jobOk ((s.jobs.getD k default ++ [x]).getD m default) ∧ cost ((s.jobs.getD k default ++ [x]).getD m default).kind = ((s.lanes.list.getD k default).costs ++ [cost x.kind]).getD m default) ∧ ((s.jobs.getD k default ++ [x]).getD m default).who = k ∧ ((s.jobs.getD k default ++ [x]).getD m default).tries = 0
        by_cases e : m < (s.jobs.getD k default).length
        · rw [ap_lt e, ap_lt (show m < (s.lanes.list.getD k default).costs.length by rw [← hjk.1]; exact e)]
          exact hjk.2 m e
        · obtain rfl : m = (s.jobs.getD k default).length := by omega
          rw [ap_at, hjk.1, ap_at]
          exact ⟨⟨a5, rfl⟩, k1, a4⟩
      · rw [if_neg (fun x => e x.symm), if_neg e]
        exact h.2.2.1 i hi
    · show okO (s.jobs.set _ _).length _ _
      rw [List.length_set]
      exact h.2.2.2 i hi
  · rw [ask_no e]; exact h
theorem ask_fx {s : Sd} {x : Jb} : (askS s x).1.out = s.out ∧ (askS s x).1.dev = s.dev ∧ wtg (askS s x).1.jobs = wtg s.jobs + (if (askS s x).2 = 0 then 1 else 0) ∧
    (askS s x).1.lanes.list.length = s.lanes.list.length ∧ ∀ i, i < s.lanes.list.length → ((askS s x).1.lanes.list.getD i default).weight = (s.lanes.list.getD i default).weight := by
  by_cases e : (askS s x).2 = 0
  · obtain ⟨a1, a2, ⟨k, k1, k2, k3, k4⟩, a4, a5⟩ := ask_yes e
    rw [k4, if_pos e]
    have hw := wtg_set (l := s.jobs) (k := k) (y := s.jobs.getD k default ++ [x]) k2
    rw [List.length_append] at hw
    have hw : wtg (s.jobs.set k (s.jobs.getD k default ++ [x])) + (s.jobs.getD k default).length = wtg s.jobs + ((s.jobs.getD k default).length + 1) := hw
    refine ⟨rfl, rfl, by show wtg (s.jobs.set k _) = _; omega, List.length_set .., fun i hi => ?_⟩
    show ((s.lanes.list.set k _).getD i default).weight = _
    rw [setL_getD hi]
    by_cases e : i = k
    · rw [if_pos e, e]
    · rw [if_neg e]
  · rw [ask_no e, if_neg e]
    exact ⟨rfl, rfl, rfl, rfl, fun _ _ => rfl⟩
theorem pmp1_fx {s : Sd} (h : rightS s) (hc : pmpC s) : wtg (pmp1 s).jobs + (pmp1 s).out.length = wtg s.jobs + s.out.length ∧ (pmp1 s).dev.next = s.dev.next + 1 ∧
    (pmp1 s).lanes.list.length = s.lanes.list.length ∧ ∀ i, i < s.lanes.list.length → ((pmp1 s).lanes.list.getD i default).weight = (s.lanes.list.getD i default).weight := by
  obtain ⟨p1, p2, p3, p4, p5, p6, p7⟩ := pj_facts h hc
  obtain ⟨n1, n2, k, n3, n4, n5, n6, n7, n8, n9⟩ := next_costs hc.2.2
  have hw := wtg_set (l := s.jobs) (k := pw s) (y := (s.jobs.getD (pw s) default).drop 1) p1
  have hp := List.length_pos_iff.2 p3
  rw [List.length_drop] at hw
  unfold pmp1
  rw [p7]
  refine ⟨?_, rfl, n2, n9⟩
  show wtg (s.jobs.set (pw s) _) + (s.out ++ [_]).length = _
  rw [List.length_append]
  show wtg (s.jobs.set (pw s) _) + (s.out.length + 1) = _
  omega
theorem pmpN_fx : ∀ {n : Nat} {s : Sd}, rightS s → wtg (pmpN n s).jobs + (pmpN n s).out.length = wtg s.jobs + s.out.length ∧ (pmpN n s).dev.next ≤ s.dev.next + n ∧
    (pmpN n s).lanes.list.length = s.lanes.list.length ∧ ∀ i, i < s.lanes.list.length → ((pmpN n s).lanes.list.getD i default).weight = (s.lanes.list.getD i default).weight
  | 0, s, _ => ⟨rfl, by show s.dev.next ≤ _; omega, rfl, fun _ _ => rfl⟩
  | n + 1, s, h => by
    by_cases hc : pmpC s
    · have e : pmpN (n + 1) s = pmpN n (pmp1 s) := if_pos hc
      obtain ⟨a1, a2, a3, a4⟩ := pmp1_fx h hc
      obtain ⟨b1, b2, b3, b4⟩ := pmpN_fx (n := n) (pmp1_right h hc)
      rw [e]
      exact ⟨by omega, by omega, by omega, fun i hi => (b4 i (by omega)).trans (a4 i hi)⟩
    · have e : pmpN (n + 1) s = s := if_neg hc
      rw [e]
      exact ⟨rfl, by omega, rfl, fun _ _ => rfl⟩
theorem pump_fx {s : Sd} (h : rightS s) : wtg (pumpS s).jobs + (pumpS s).out.length = wtg s.jobs + s.out.length ∧ (pumpS s).dev.next ≤ s.dev.next + 4 ∧
    (pumpS s).lanes.list.length = s.lanes.list.length ∧ ∀ i, i < s.lanes.list.length → ((pumpS s).lanes.list.getD i default).weight = (s.lanes.list.getD i default).weight := by
  unfold pumpS
  rw [if_pos h]
  exact pmpN_fx h
theorem done_no {s : Sd} {i : Int} {f : Bool} (h : doneNo s i) : doneS s i f = (s, noJ, 1, false) := if_pos h
structure DoneY (s : Sd) (i : Int) (f : Bool) (a : Nat) : Prop where
  hi : i = a
  ha : a < s.out.length
  e : doneS s i f = doneX s (s.out.getD a default) (withoutJ s.out a) (finD s.dev i f)
  no : ¬ finNo s.dev i
theorem done_yes {s : Sd} {i : Int} {f : Bool} (h : ¬ doneNo s i) : ∃ a, DoneY s i f a := by
  have hr : rightS s := Classical.byContradiction fun x => h (.inl x)
  have ha0 : 0 ≤ i := by have : ¬ i < 0 := fun x => h (.inr (.inl x)); omega
  obtain ⟨a, rfl⟩ : ∃ a : Nat, i = a := ⟨i.toNat, by omega⟩
  have hi : a < s.out.length := by have : ¬ (s.out.length : Int) ≤ a := fun x => h (.inr (.inr x)); omega
  refine ⟨a, rfl, hi, by unfold doneS; rw [if_neg h, Int.toNat_natCast], ?_⟩
  rintro (x | x | x)
  · exact x hr.1.2
  · omega
  · have := hr.2.1.2; omega
theorem out_may {s : Sd} {a : Nat} (h : rightS s) (ha : a < s.out.length) : may (s.out.getD a default).kind (s.out.getD a default).page (s.out.getD a default).data := by
  obtain ⟨⟨e1, e2, e3⟩, -⟩ := h.2.2.2 a ha
  rw [e1, e2, e3]
  exact (h.1.2.2.2 a (by have := h.2.1.2; omega)).2.2
theorem done_right {s : Sd} {i : Int} {f : Bool} (h : rightS s) : rightS (doneS s i f).1 := by
  by_cases hn : doneNo s i
  · rw [done_no hn]; exact h
  obtain ⟨a, rfl, ha, he, hno⟩ := done_yes (f := f) hn
  rw [he]
  have hfr := fin_right (fault := f) hno
  obtain ⟨a', ea, ha', hv, f1, f2, -⟩ := fin_yes (fault := f) hno
  obtain rfl : a = a' := by omega
  have hol := h.2.1.2
  have hmy := out_may h ha
  have hox := h.2.2.2 a ha
  have hjl := h.2.1.1
  have hl1 : (withoutJ s.out a).length = s.out.length - 1 := wo_length ha
  have hl2 : (finD s.dev a f).1.flight.length = s.out.length - 1 := by rw [f2]; unfold without; rw [wo_length ha', hol]
  have hok : ∀ m, m < s.out.length - 1 → okO s.jobs.length ((withoutJ s.out a).getD m default) ((finD s.dev a f).1.flight.getD m default) := fun m hm => by
    rw [f2]; unfold withoutJ without; rw [wo_getD ha, wo_getD ha']
    refine h.2.2.2 _ ?_
    split <;> omega
  generalize finD s.dev a f = y at *
  generalize withoutJ s.out a = l at *
  generalize s.out.getD a default = x at *
  unfold doneX
  split
  · rename_i g
    rw [sub_yes hfr g.2.2 hmy, if_neg (by have := h.1.2.2.1.2.2; omega)]
    refine ⟨⟨h.1.1, sub_right hfr g.2.2 hmy (by have := h.1.2.2.1.2.2; omega)⟩, ⟨hjl, by show (l ++ [_]).length = (y.1.flight ++ [_]).length; rw [List.length_append, List.length_append, hl1, hl2]; rfl⟩, h.2.2.1, fun m hm => ?_⟩
    have hm : m < (l ++ [_]).length := hm
    rw [List.length_append] at hm
    have hm : m < l.length + 1 := hm
    show okO s.jobs.length ((l ++ [_]).getD m default) ((y.1.flight ++ [_]).getD m default)
    by_cases e : m < l.length
    · rw [ap_lt e, ap_lt (by omega)]; exact hok m (by omega)
    · obtain rfl : m = l.length := by omega
      rw [ap_at, hl1.trans hl2.symm, ap_at]
      exact ⟨⟨rfl, rfl, rfl⟩, hox.2.1, by show 1 ≤ x.tries + 1; have := hox.2.2; omega, by show x.tries + 1 ≤ 3; have := g.2.1; omega⟩
  · refine ⟨⟨h.1.1, hfr⟩, ⟨hjl, hl1.trans hl2.symm⟩, h.2.2.1, fun m hm => hok m (by have hm : m < l.length := hm; omega)⟩
theorem done_fx {s : Sd} {i : Int} {f : Bool} (h : rightS s) : (doneS s i f).1.jobs = s.jobs ∧ (doneS s i f).1.lanes = s.lanes ∧ (doneS s i f).1.dev.next ≤ s.dev.next + 1 ∧
    (doneS s i f).1.out.length + (if (doneS s i f).2.2.2 = true then 1 else 0) = s.out.length ∧
    ((doneS s i f).2.2.2 = true → 1 ≤ (doneS s i f).2.1.tries ∧ (doneS s i f).2.1.tries ≤ 3 ∧ ((doneS s i f).2.2.1 = 8 → s.dev.next < 2147483647 → (doneS s i f).2.1.tries = 3)) := by
  by_cases hn : doneNo s i
  · rw [done_no hn]
    exact ⟨rfl, rfl, by show s.dev.next ≤ _; omega, rfl, fun x => by cases x⟩
  obtain ⟨a, rfl, ha, he, hno⟩ := done_yes (f := f) hn
  rw [he]
  have hfr := fin_right (fault := f) hno
  have hnx := fin_next (d := s.dev) (i := a) (fault := f)
  obtain ⟨a', ea, ha', hv, f1, f2, -⟩ := fin_yes (fault := f) hno
  obtain rfl : a = a' := by omega
  have hol := h.2.1.2
  have hmy := out_may h ha
  have hox := h.2.2.2 a ha
  have hl1 : (withoutJ s.out a).length = s.out.length - 1 := wo_length ha
  have hl2 : (finD s.dev a f).1.flight.length = s.out.length - 1 := by rw [f2]; unfold without; rw [wo_length ha', hol]
  generalize finD s.dev a f = y at *
  generalize withoutJ s.out a = l at *
  generalize s.out.getD a default = x at *
  unfold doneX
  split
  · rename_i g
    rw [sub_yes hfr g.2.2 hmy, if_neg (by have := h.1.2.2.1.2.2; omega)]
    refine ⟨rfl, rfl, by show y.1.next + 1 ≤ _; omega, ?_, fun x => by cases x⟩
    show (l ++ [_]).length + 0 = _
    rw [List.length_append]
    show l.length + 1 + 0 = _
    omega
  · rename_i g
    refine ⟨rfl, rfl, by show y.1.next ≤ _; omega, by show l.length + 1 = _; omega, fun _ => ⟨hox.2.2.1, hox.2.2.2, fun e1 e2 => ?_⟩⟩
    have e1 : y.2.2 = 8 := e1
    have h3 : ¬ x.tries < 3 := fun z => g ⟨e1, z, by omega⟩
    show x.tries = 3
    have := hox.2.2
    omega
end Lk.S06
namespace Lk.S06
open Go Lk Lk.C Lk.S03 Lk.S04
def rcst (k : Int) : Int := if k = 1 then 2 else if k = 2 then 4 else 1
theorem rcst_cost {x : Jb} (h : jobOk x) : rcst x.kind = cost x.kind := by
  unfold rcst cost
  rcases h with y | y | y <;> simp [y.1]
theorem woJ_step {l : List Jb} {a i : Nat} (hi : i < l.length) (h : i ≠ a) : withoutJ (l.take (i + 1)) a = withoutJ (l.take i) a ++ [l.getD i default] := by
  unfold withoutJ
  rw [take_snoc hi]
  have hl : (l.take i).length = i := by rw [List.length_take]; omega
  by_cases h1 : a < i
  · rw [List.take_append_of_le_length (by omega), List.drop_append_of_le_length (by omega), List.append_assoc]
  · have e1 : (l.take i ++ [l.getD i default]).take a = l.take i ++ [l.getD i default] := List.take_of_length_le (by rw [List.length_append, hl]; simp; omega)
    have e2 : (l.take i).take a = l.take i := List.take_of_length_le (by omega)
    have e3 : (l.take i ++ [l.getD i default]).drop (a + 1) = [] := List.drop_eq_nil_of_le (by rw [List.length_append, hl]; simp; omega)
    have e4 : (l.take i).drop (a + 1) = [] := List.drop_eq_nil_of_le (by omega)
    rw [e1, e2, e3, e4, List.append_nil, List.append_nil]
theorem woJ_same {l : List Jb} {a : Nat} (hi : a < l.length) : withoutJ (l.take (a + 1)) a = withoutJ (l.take a) a := by
  unfold withoutJ
  rw [take_snoc hi]
  have hl : (l.take a).length = a := by rw [List.length_take]; omega
  rw [List.take_append_of_le_length (by omega), List.drop_eq_nil_of_le (by simp; omega), List.drop_eq_nil_of_le (by omega)]
theorem woJ_len {l : List Jb} {a i : Nat} : (withoutJ (l.take i) a).length ≤ l.length := by
  unfold withoutJ; simp; omega
theorem list_ext {a b : List Jb} (h : a.length = b.length) (hk : ∀ k, k < a.length → a.getD k default = b.getD k default) : a = b :=
  List.ext_getElem h fun k h1 h2 => by rw [← getD_eq h1, ← getD_eq h2]; exact hk k h1
theorem jb_eq {a b : Jb} : (decide (a.who = b.who) && (decide (a.kind = b.kind) && (decide (a.page = b.page) && (decide (a.data = b.data) && decide (a.tries = b.tries))))) = decide (a = b) := by
  rw [Bool.eq_iff_iff]
  simp only [Bool.and_eq_true, decide_eq_true_eq]
  cases a; cases b; simp
structure KR6 (P : Program) (F : Nat → Nat) : Prop where
  m : P.follows .mixedOrders = true
  v : KRV P F
  right5 : ref05_Right_k P F
  same5 : ref05_Same_k P F
  cost : ref06_Cost_k P F
  behind : ref06_behind_k P F
  without : ref06_without_k P F
  jobs : ref06_jobs_k P F
  waits : ref05_Waits_k P F
  over : ref05_over_k P F
  with_ : ref05_with_k P F
  next : ref05_Next_k P F
  right : ref06_Right_k P F
  ask : ref06_Ask_k P F
  again : ref06_again_k P F
  pump : ref06_Pump_k P F
  done : ref06_Done_k P F
  crash : ref06_Crash_k P F
  same : ref06_Same_k P F
  ref : law06_ref_k P F
section
variable {P : Program} {F : Nat → Nat}
theorem rcost_ok (K : KR6 P F) (k : Int) : FnOk P (F 196) [.one (.int .i64 k)] [.one (.im (.int .i64 (rcst k)))] := by
  refine fnOk K.m K.cost ?_
  repeat' first | (with_reducible first | refine wkI ?_ | exact ⟨⟩ | refine wkB (fun _ => ?_) fun _ => ?_ | refine wkT (fun _ => ?_) ?_) | ((with_reducible refine wkC ?_ ?_); exact CEq.refl _) | (with_reducible refine wkL ?_) | ((with_reducible fail_if_success first | constructor | show False); conv => whnf)
  all_goals (refine Need.mk (eI (by simp only [decide_eq_true_eq, decide_eq_false_iff_not] at *; unfold rcst; simp [*])) ?_)
  all_goals
    repeat' first | (with_reducible first | refine wkI ?_ | exact ⟨⟩ | refine wkB (fun _ => ?_) fun _ => ?_ | refine wkT (fun _ => ?_) ?_) | ((with_reducible refine wkC ?_ ?_); exact CEq.refl _) | (with_reducible refine wkF ?_) | ((with_reducible fail_if_success first | constructor | show False); conv => whnf)
theorem behind_ok (K : KR6 P F) (l : List Jb) (x : Jb) (hl : l.length ≤ 1000000) : FnOk P (F 197) [.one (slL 5 jbE l), .many 5 (jbE x)] [.one (.im (slL 5 jbE (l ++ [x])))] := by
  refine fnOk K.m K.behind ?_
  repeat' first | (with_reducible first | refine wkI ?_ | exact ⟨⟩ | refine wkB (fun _ => ?_) fun _ => ?_ | refine wkT (fun _ => ?_) ?_) | ((with_reducible refine wkC ?_ ?_); exact CEq.refl _) | (with_reducible refine wkL ?_) | ((with_reducible fail_if_success first | constructor | show False); conv => whnf)
  refine Need.mk (((IsL.app (size := 5) (enc := jbE) (l := l) IsL.refl rfl (isL_one (x := x) rfl rfl rfl rfl rfl)).off).ceq (by simp)) ?_
  repeat' first | (with_reducible first | refine wkI ?_ | exact ⟨⟩ | refine wkB (fun _ => ?_) fun _ => ?_ | refine wkT (fun _ => ?_) ?_) | ((with_reducible refine wkC ?_ ?_); exact CEq.refl _) | (with_reducible refine wkL ?_) | ((with_reducible fail_if_success first | constructor | show False); conv => whnf)
theorem withoutJ_ok (K : KR6 P F) (l : List Jb) (a : Nat) (hl : l.length ≤ 1000000) : FnOk P (F 200) [.one (slL 5 jbE l), .one (.int .i64 (a : Int))] [.one (.im (slL 5 jbE (withoutJ l a)))] := by
  refine fnOk K.m K.without ?_
  repeat' first | (with_reducible first | refine wkI ?_ | exact ⟨⟩ | refine wkB (fun _ => ?_) fun _ => ?_ | refine wkT (fun _ => ?_) ?_) | ((with_reducible refine wkC ?_ ?_); exact CEq.refl _) | (with_reducible refine wkL ?_) | ((with_reducible fail_if_success first | constructor | show False); conv => whnf)
  refine LoopVC.inv (fun i : Nat => i ≤ l.length) (fun i => stL [(0, .c (slL 5 jbE l)), (1, .c (.int .i64 (a : Int))), (5, .os 22 0 5 0 (withoutJ (l.take i) a).length), (6, .c (.int .i64 i))]
    [(22, ⟨5, (withoutJ (l.take i) a).length, .dat fun r j => jbE ((withoutJ (l.take i) a).getD r default) j, false, true⟩)]) (fun i => l.length - i) 0 (Nat.zero_le _) ?_ ?_
  · have hw0 : withoutJ (l.take 0) a = [] := by unfold withoutJ; simp
    rw [hw0]
    (refine Le.ofN [22] ?_ ?_ <;> repeat' first | exact trivial | exact SubF.inr ⟨_, _, _, rfl, rfl, rfl⟩ | exact SubF.inl (cI (by push_cast; first | rfl | omega)) | exact SubF.inl (CEq.refl _) | exact SubF.inl rfl | exact SubF.inl trivial | exact SubF.inl ⟨rfl, rfl, rfl⟩ | exact SubF.inl ⟨rfl, rfl, rfl, rfl, rfl⟩ | exact Or.inl ⟨rfl, rfl⟩ | refine Or.inr ⟨rfl, _, rfl, ?_⟩ | refine SubEF.var2 ?_ ?_ | refine SubEF.var1 ?_ | refine SubEF.var3 ?_ ?_ ?_ | refine SubEF.varN ?_ | refine SubEF.var4 ?_ ?_ ?_ ?_ | exact SubEF.of (SubE.dat fun _ _ _ _ => CEq.refl _) | refine And.intro ?_ ?_ | refine SubF.frz rfl rfl rfl rfl (Nat.le_of_eq (Nat.zero_add _)) rfl rfl ?_)
  rintro Q hQ i hi
  have hwl : (withoutJ (l.take i) a).length ≤ l.length := woJ_len
  repeat' first | (with_reducible first | refine wkI ?_ | exact ⟨⟩ | refine wkB (fun _ => ?_) fun _ => ?_ | refine wkT (fun _ => ?_) ?_) | ((with_reducible refine wkC ?_ ?_); exact CEq.refl _) | (with_reducible refine wkL ?_) | ((with_reducible fail_if_success first | constructor | show False); conv => whnf)
  · rename_i g1 g2
    have g1 : i < l.length := by have := of_decide_eq_true g1; omega
    have g2 : i ≠ a := by simp only [Bool.not_eq_true', decide_eq_false_iff_not] at g2; omega
    repeat' first | (with_reducible first | refine wkI ?_ | exact ⟨⟩ | refine wkB (fun _ => ?_) fun _ => ?_ | refine wkT (fun _ => ?_) ?_) | ((with_reducible refine wkC ?_ ?_); exact CEq.refl _) | (with_reducible refine wkL ?_) | ((with_reducible fail_if_success first | constructor | show False); conv => whnf)
    refine LoopEnd.mk ⟨i + 1, g1, by omega, ?_⟩
    have e := woJ_step g1 g2
    have el : (withoutJ (l.take (i + 1)) a).length = (withoutJ (l.take i) a).length + 1 := by rw [e]; simp
    rw [el]
    clear hQ
    (refine Le.of ?_ ?_ <;> repeat' first | exact trivial | exact CEq.refl _ | exact rfl | exact cI (by push_cast; first | rfl | omega) | exact SubE.dat fun _ _ _ _ => CEq.refl _ | refine SubE.varN ?_ | refine Exists.intro _ (And.intro rfl ?_) | refine And.intro ?_ ?_)
    refine SubE.dat fun r hr j hj => ?_
    have hr : r < (withoutJ (l.take i) a).length + 1 := hr
    rw [e]
    exact (IsL.app (size := 5) (enc := jbE) (l := withoutJ (l.take i) a) IsL.refl rfl (isL_one (x := l.getD i default) rfl rfl rfl rfl rfl)) r (by simpa using hr) j hj
  · rename_i g1 g2
    have g1 : i < l.length := by have := of_decide_eq_true g1; omega
    have g2 : i = a := by simp only [Bool.not_eq_false', decide_eq_true_eq] at g2; omega
    subst g2
    refine LoopEnd.mk ⟨i + 1, g1, by omega, ?_⟩
    rw [woJ_same g1]
    clear hQ
    (refine Le.of ?_ ?_ <;> repeat' first | exact trivial | exact CEq.refl _ | exact rfl | exact cI (by push_cast; first | rfl | omega) | exact SubE.dat fun _ _ _ _ => CEq.refl _ | refine SubE.varN ?_ | refine Exists.intro _ (And.intro rfl ?_) | refine And.intro ?_ ?_)
  · rename_i g1
    have g1 : i = l.length := by have := of_decide_eq_false g1; omega
    refine Out.mk (hQ _ _ ?_)
    clear hQ
    rw [g1, List.take_length]
    repeat' first | (with_reducible first | refine wkI ?_ | exact ⟨⟩ | refine wkB (fun _ => ?_) fun _ => ?_ | refine wkT (fun _ => ?_) ?_) | ((with_reducible refine wkC ?_ ?_); exact CEq.refl _) | (with_reducible refine wkL ?_) | ((with_reducible fail_if_success first | constructor | show False); conv => whnf)
theorem rjobs_ok (K : KR6 P F) (a b : List Jb) (ha : a.length ≤ 1000000) (hb : b.length ≤ 1000000) : FnOk P (F 202) [.one (slL 5 jbE a), .one (slL 5 jbE b)] [.one (.im (.bool (decide (a = b))))] := by
  refine fnOk K.m K.jobs ?_
  repeat' first | (with_reducible first | refine wkI ?_ | exact ⟨⟩ | refine wkB (fun _ => ?_) fun _ => ?_ | refine wkT (fun _ => ?_) ?_) | ((with_reducible refine wkC ?_ ?_); exact CEq.refl _) | (with_reducible refine wkL ?_) | ((with_reducible fail_if_success first | constructor | show False); conv => whnf)
  · rename_i h
    simp only [Bool.not_eq_true', decide_eq_false_iff_not] at h
    rw [decide_eq_false (fun x : a = b => h (by rw [x]))]
    repeat' first | (with_reducible first | refine wkI ?_ | exact ⟨⟩ | refine wkB (fun _ => ?_) fun _ => ?_ | refine wkT (fun _ => ?_) ?_) | ((with_reducible refine wkC ?_ ?_); exact CEq.refl _) | (with_reducible refine wkL ?_) | ((with_reducible fail_if_success first | constructor | show False); conv => whnf)
  rename_i h
  simp only [Bool.not_eq_false', decide_eq_true_eq] at h
  refine LoopVC.inv (fun i : Nat => i ≤ a.length ∧ ∀ k, k < i → a.getD k default = b.getD k default) (fun i => stL [(0, .c (slL 5 jbE a)), (1, .c (slL 5 jbE b)), (5, .c (.int .i64 i))] []) (fun i => a.length - i) 0 ⟨Nat.zero_le _, fun k hk => by omega⟩ ?_ ?_
  · (refine Le.of ?_ ?_ <;> repeat' first | exact trivial | exact CEq.refl _ | exact rfl | exact cI (by push_cast; first | rfl | omega) | exact SubE.dat fun _ _ _ _ => CEq.refl _ | refine SubE.varN ?_ | refine Exists.intro _ (And.intro rfl ?_) | refine And.intro ?_ ?_)
  rintro Q hQ i ⟨hi, hk⟩
  repeat' first | (with_reducible first | refine wkI ?_ | exact ⟨⟩ | refine wkB (fun _ => ?_) fun _ => ?_ | refine wkT (fun _ => ?_) ?_) | ((with_reducible refine wkC ?_ ?_); exact CEq.refl _) | (with_reducible refine wkL ?_) | ((with_reducible fail_if_success first | constructor | show False); conv => whnf)
  · rename_i g
    have g : i < a.length := by have := of_decide_eq_true g; omega
    repeat' first | (with_reducible first | refine wkI ?_ | exact ⟨⟩ | refine wkB (fun _ => ?_) fun _ => ?_ | refine wkT (fun _ => ?_) ?_) | ((with_reducible refine wkC ?_ ?_); exact CEq.refl _) | (with_reducible refine wkL ?_) | ((with_reducible fail_if_success first | constructor | show False); conv => whnf)
    · rename_i z
      rw [Int.toNat_natCast, cond_true, jb_eq, Bool.not_eq_true', decide_eq_false_iff_not] at z
      refine Out.mk (hQ _ _ ?_)
      rw [decide_eq_false (fun x : a = b => z (by rw [x]))]
      repeat' first | (with_reducible first | refine wkI ?_ | exact ⟨⟩ | refine wkB (fun _ => ?_) fun _ => ?_ | refine wkT (fun _ => ?_) ?_) | ((with_reducible refine wkC ?_ ?_); exact CEq.refl _) | (with_reducible refine wkL ?_) | ((with_reducible fail_if_success first | constructor | show False); conv => whnf)
    · rename_i z
      rw [Int.toNat_natCast, cond_true, jb_eq, Bool.not_eq_false', decide_eq_true_eq] at z
      refine LoopEnd.mk ⟨i + 1, ⟨g, fun k hk' => ?_⟩, by omega, ?_⟩
      · rcases Nat.lt_or_ge k i with h9 | h9
        · exact hk k h9
        · obtain rfl : k = i := by omega
          exact z
      · clear hQ
        (refine Le.of ?_ ?_ <;> repeat' first | exact trivial | exact CEq.refl _ | exact rfl | exact cI (by push_cast; first | rfl | omega) | exact SubE.dat fun _ _ _ _ => CEq.refl _ | refine SubE.varN ?_ | refine Exists.intro _ (And.intro rfl ?_) | refine And.intro ?_ ?_)
  · rename_i g
    have g : i = a.length := by have := of_decide_eq_false g; omega
    refine Out.mk (hQ _ _ ?_)
    rw [decide_eq_true (show a = b from list_ext (by omega) fun k hk' => hk k (by omega))]
    repeat' first | (with_reducible first | refine wkI ?_ | exact ⟨⟩ | refine wkB (fun _ => ?_) fun _ => ?_ | refine wkT (fun _ => ?_) ?_) | ((with_reducible refine wkC ?_ ?_); exact CEq.refl _) | (with_reducible refine wkL ?_) | ((with_reducible fail_if_success first | constructor | show False); conv => whnf)
theorem rover_ok (K : KR6 P F) (l : S05.Ls) (h1 : 1 ≤ l.list.length ∧ l.list.length ≤ 6) (h2 : 0 ≤ l.at_ ∧ l.at_ < l.list.length) : FnOk P (F 203) [.many 3 (S05.lsE l)] [.many 3 (fun j => .im (S05.lsE ⟨l.list, if l.at_ + 1 = l.list.length then 0 else l.at_ + 1, false⟩ j))] := by
  refine fnOk K.m K.over ?_
  repeat' first | (with_reducible first | refine wkI ?_ | exact ⟨⟩ | refine wkB (fun _ => ?_) fun _ => ?_ | refine wkT (fun _ => ?_) ?_) | ((with_reducible refine wkC ?_ ?_); exact CEq.refl _) | (with_reducible refine wkL ?_) | ((with_reducible fail_if_success first | constructor | show False); conv => whnf)
  · rename_i z
    refine Need.mk (eI (by rw [if_pos (of_decide_eq_true z)])) ?_
    repeat' first | (with_reducible first | refine wkI ?_ | exact ⟨⟩ | refine wkB (fun _ => ?_) fun _ => ?_ | refine wkT (fun _ => ?_) ?_) | ((with_reducible refine wkC ?_ ?_); exact CEq.refl _) | (with_reducible refine wkL ?_) | ((with_reducible fail_if_success first | constructor | show False); conv => whnf)
  · rename_i z
    refine Need.mk (eI (by rw [if_neg (of_decide_eq_false z)])) ?_
    repeat' first | (with_reducible first | refine wkI ?_ | exact ⟨⟩ | refine wkB (fun _ => ?_) fun _ => ?_ | refine wkT (fun _ => ?_) ?_) | ((with_reducible refine wkC ?_ ?_); exact CEq.refl _) | (with_reducible refine wkL ?_) | ((with_reducible fail_if_success first | constructor | show False); conv => whnf)
theorem rwaits_ok (K : KR6 P F) (l : S05.Ls) (h : S05.right l) : FnOk P (F 198) [.many 3 (S05.lsE l)] [.one (.im (.bool (decide (S05.waits l))))] := by
  refine fnOk K.m K.waits ?_
  have h1 := h.1
  repeat' first | (with_reducible first | refine wkI ?_ | exact ⟨⟩ | refine wkB (fun _ => ?_) fun _ => ?_ | refine wkT (fun _ => ?_) ?_) | ((with_reducible refine wkC ?_ ?_); exact CEq.refl _) | (with_reducible refine wkL ?_) | ((with_reducible fail_if_success first | constructor | show False); conv => whnf)
  refine LoopVC.inv (fun i : Nat => i ≤ l.list.length ∧ ∀ k, k < i → (l.list.getD k default).costs = []) (fun i => stL [(1, .va 1 0 0), (3, .c (.int .i64 i))] [(1, vE [.c (slL 3 S05.lnE l.list), .c (.int .i64 l.at_), .c (.bool l.given)])]) (fun i => l.list.length - i) 0 ⟨Nat.zero_le _, fun k hk => by omega⟩ ?_ ?_
  · (refine Le.of ?_ ?_ <;> repeat' first | exact trivial | exact CEq.refl _ | exact rfl | exact cI (by push_cast; first | rfl | omega) | exact SubE.dat fun _ _ _ _ => CEq.refl _ | refine SubE.varN ?_ | refine Exists.intro _ (And.intro rfl ?_) | refine And.intro ?_ ?_)
  rintro Q hQ i ⟨hi, hk⟩
  repeat' first | (with_reducible first | refine wkI ?_ | exact ⟨⟩ | refine wkB (fun _ => ?_) fun _ => ?_ | refine wkT (fun _ => ?_) ?_) | ((with_reducible refine wkC ?_ ?_); exact CEq.refl _) | (with_reducible refine wkL ?_) | ((with_reducible fail_if_success first | constructor | show False); conv => whnf)
  · rename_i g
    have g : i < l.list.length := by have := of_decide_eq_true g; omega
    repeat' first | (with_reducible first | refine wkI ?_ | exact ⟨⟩ | refine wkB (fun _ => ?_) fun _ => ?_ | refine wkT (fun _ => ?_) ?_) | ((with_reducible refine wkC ?_ ?_); exact CEq.refl _) | (with_reducible refine wkL ?_) | ((with_reducible fail_if_success first | constructor | show False); conv => whnf)
    · rename_i z
      have z : 0 < (l.list.getD i default).costs.length := by have := of_decide_eq_true z; rw [Int.toNat_natCast] at this; omega
      refine Out.mk (hQ _ _ ?_)
      rw [decide_eq_true (show S05.waits l from ⟨_, getD_mem g, fun e => by rw [e] at z; exact absurd z (Nat.lt_irrefl 0)⟩)]
      repeat' first | (with_reducible first | refine wkI ?_ | exact ⟨⟩ | refine wkB (fun _ => ?_) fun _ => ?_ | refine wkT (fun _ => ?_) ?_) | ((with_reducible refine wkC ?_ ?_); exact CEq.refl _) | (with_reducible refine wkL ?_) | ((with_reducible fail_if_success first | constructor | show False); conv => whnf)
    · rename_i z
      have z : ¬ 0 < (l.list.getD i default).costs.length := by have := of_decide_eq_false z; rw [Int.toNat_natCast] at this; omega
      refine LoopEnd.mk ⟨i + 1, ⟨g, fun k hk' => ?_⟩, by omega, ?_⟩
      · rcases Nat.lt_or_ge k i with h9 | h9
        · exact hk k h9
        · obtain rfl : k = i := by omega
          exact List.eq_nil_of_length_eq_zero (by omega)
      · clear hQ
        (refine Le.of ?_ ?_ <;> repeat' first | exact trivial | exact CEq.refl _ | exact rfl | exact cI (by push_cast; first | rfl | omega) | exact SubE.dat fun _ _ _ _ => CEq.refl _ | refine SubE.varN ?_ | refine Exists.intro _ (And.intro rfl ?_) | refine And.intro ?_ ?_)
  · rename_i g
    have g : i = l.list.length := by have := of_decide_eq_false g; omega
    refine Out.mk (hQ _ _ ?_)
    rw [decide_eq_false (fun x : S05.waits l => by
      obtain ⟨y, hy, hne⟩ := x
      obtain ⟨k, hk', rfl⟩ := List.mem_iff_getElem.1 hy
      exact hne (by rw [← getD_eq hk']; exact hk k (by omega)))]
    repeat' first | (with_reducible first | refine wkI ?_ | exact ⟨⟩ | refine wkB (fun _ => ?_) fun _ => ?_ | refine wkT (fun _ => ?_) ?_) | ((with_reducible refine wkC ?_ ?_); exact CEq.refl _) | (with_reducible refine wkL ?_) | ((with_reducible fail_if_success first | constructor | show False); conv => whnf)
end
end Lk.S06
namespace Lk.S06
open Go Lk Lk.C Lk.S03 Lk.S04
theorem app_row {α : Type} [Inhabited α] {size i : Nat} {enc : α → Nat → Cell} {L : List α} {g : Nat → Nat → Cell} (hg : ∀ j, j < size → CEq (g 0 j) (enc (L.getD i default) j)) :
    ∀ r, r < i + 1 → ∀ j, j < size → CEq (appC (fun r j => enc (L.getD r default) j) i g r j) (enc (L.getD r default) j) := fun r hr j hj => by
  rw [appC_at]
  by_cases e : i ≤ r
  · obtain rfl : r = i := by omega
    rw [if_pos (Nat.le_refl _), Nat.sub_self]
    exact hg j hj
  · rw [if_neg e]
    exact CEq.refl _
section
variable {P : Program} {F : Nat → Nat}
theorem wfV {d : Dv} (h : rightV d) : EDv.wf d := (rightV.small h).wf (rightV.rng h)
theorem rright6_ok (K : KR6 P F) (s : Sd) (h : rightS s) : FnOk P (F 195) [.many 9 (sdE s)] [.one (.im (.bool true))] := by
  refine fnOk K.m K.right ?_
  have S := h.small
  have hj := S.j
  have ho := S.o
  have hl6 := h.1.1.1.2
  have hje := h.2.1.1
  have hoe := h.2.1.2
  repeat' first | (with_reducible first | refine wkI ?_ | exact ⟨⟩ | refine wkB (fun _ => ?_) fun _ => ?_ | refine wkT (fun _ => ?_) ?_) | ((with_reducible refine wkC ?_ ?_); exact CEq.refl _) | (with_reducible refine wkL ?_) | ((with_reducible fail_if_success first | constructor | show False); conv => whnf)
  refine CallVC.mk' (fun _ => S05.rright_ok K.m K.right5 s.lanes (by omega) (fun x hx => by
    obtain ⟨i, hi, rfl⟩ := List.mem_iff_getElem.1 hx
    have := (h.1.1.2.2 i hi).2.2.1
    rw [getD_eq hi] at this; omega)) (fun _ => .cons ((mC3 (by rfl))) .nil) ?_
  rw [decide_eq_true h.1.1]
  repeat' first | (with_reducible first | refine wkI ?_ | exact ⟨⟩ | refine wkB (fun _ => ?_) fun _ => ?_ | refine wkT (fun _ => ?_) ?_) | ((with_reducible refine wkC ?_ ?_); exact CEq.refl _) | (with_reducible refine wkL ?_) | ((with_reducible fail_if_success first | constructor | show False); conv => whnf)
  refine CallVC.mk' (fun _ => rrightV_ok K.v s.dev (wfV h.1.2)) (fun _ => .cons ((mC4 (by rfl))) .nil) ?_
  rw [decide_eq_true h.1.2]
  repeat' first | (with_reducible first | refine wkI ?_ | exact ⟨⟩ | refine wkB (fun _ => ?_) fun _ => ?_ | refine wkT (fun _ => ?_) ?_) | ((with_reducible refine wkC ?_ ?_); exact CEq.refl _) | (with_reducible refine wkL ?_) | ((with_reducible fail_if_success first | constructor | show False); conv => whnf)
  · rename_i z
    rw [decide_eq_true (show (s.jobs.length : Int) = s.lanes.list.length by omega), decide_eq_true (show (s.out.length : Int) = s.dev.flight.length by omega)] at z
    exact absurd z (by decide)
  refine LoopVC.inv (fun i : Nat => i ≤ s.jobs.length) (fun i => stL [(1, .va 1 0 0), (3, .c (.int .i64 i))] [(1, sV s)]) (fun i => s.jobs.length - i) 0 (Nat.zero_le _) ?_ ?_
  · (refine Le.of ?_ ?_ <;> repeat' first | exact trivial | exact CEq.refl _ | exact rfl | exact cI (by push_cast; first | rfl | omega) | exact SubE.dat fun _ _ _ _ => CEq.refl _ | refine SubE.varN ?_ | refine Exists.intro _ (And.intro rfl ?_) | refine And.intro ?_ ?_)
  rintro Q hQ i hi
  repeat' first | (with_reducible first | refine wkI ?_ | exact ⟨⟩ | refine wkB (fun _ => ?_) fun _ => ?_ | refine wkT (fun _ => ?_) ?_) | ((with_reducible refine wkC ?_ ?_); exact CEq.refl _) | (with_reducible refine wkL ?_) | ((with_reducible fail_if_success first | constructor | show False); conv => whnf)
  · rename_i h1
    have h1 : i < s.jobs.length := by have := of_decide_eq_true h1; omega
    have hok := h.2.2.1 i h1
    have hjl := S.jl _ (getD_mem h1)
    have hjd := S.jd _ (getD_mem h1)
    repeat' first | (with_reducible first | refine wkI ?_ | exact ⟨⟩ | refine wkB (fun _ => ?_) fun _ => ?_ | refine wkT (fun _ => ?_) ?_) | ((with_reducible refine wkC ?_ ?_); exact CEq.refl _) | (with_reducible refine wkL ?_) | ((with_reducible fail_if_success first | constructor | show False); conv => whnf)
    · rename_i z
      rw [Int.toNat_natCast, decide_eq_true (show ((s.lanes.list.getD i default).costs.length : Int) = (s.jobs.getD i default).length by rw [hok.1])] at z
      exact absurd z (by decide)
    rw [Int.toNat_natCast]
    refine LoopVC.inv (fun k : Nat => k ≤ (s.lanes.list.getD i default).costs.length)
      (fun k => stL [(1, .va 1 0 0), (3, .c (.int .i64 i)), (4, .c (slL 1 S05.intE (s.lanes.list.getD i default).costs)), (5, .c (.int .i64 k))] [(1, sV s)]) (fun k => (s.lanes.list.getD i default).costs.length - k) 0 (Nat.zero_le _) ?_ ?_
    · clear hQ
      (refine Le.of ?_ ?_ <;> repeat' first | exact trivial | exact CEq.refl _ | exact rfl | exact cI (by push_cast; first | rfl | omega) | exact SubE.dat fun _ _ _ _ => CEq.refl _ | refine SubE.varN ?_ | refine Exists.intro _ (And.intro rfl ?_) | refine And.intro ?_ ?_)
    rintro Q2 hQ2 k hk
    have hle := hok.1
    repeat' first | (with_reducible first | refine wkI ?_ | exact ⟨⟩ | refine wkB (fun _ => ?_) fun _ => ?_ | refine wkT (fun _ => ?_) ?_) | ((with_reducible refine wkC ?_ ?_); exact CEq.refl _) | (with_reducible refine wkL ?_) | ((with_reducible fail_if_success first | constructor | show False); conv => whnf)
    · rename_i h2
      have h2 : k < (s.jobs.getD i default).length := by have := of_decide_eq_true h2; omega
      obtain ⟨⟨o1, o2⟩, o3, o4⟩ := hok.2 k h2
      have hxd := hjd _ (getD_mem h2)
      repeat' first | (with_reducible first | refine wkI ?_ | exact ⟨⟩ | refine wkB (fun _ => ?_) fun _ => ?_ | refine wkT (fun _ => ?_) ?_) | ((with_reducible refine wkC ?_ ?_); exact CEq.refl _) | (with_reducible refine wkL ?_) | ((with_reducible fail_if_success first | constructor | show False); conv => whnf)
      rw [Int.toNat_natCast, Int.toNat_natCast]
      generalize (s.jobs.getD i default).getD k default = x at *
      refine CallVC.mk' (fun _ => rcost_ok K x.kind) (fun _ => .cons (.one (CEq.refl _)) .nil) ?_
      rw [rcst_cost o1, o2, o3, o4]
      repeat' first | (with_reducible first | refine wkI ?_ | exact ⟨⟩ | refine wkB (fun _ => ?_) fun _ => ?_ | refine wkT (fun _ => ?_) ?_) | ((with_reducible refine wkC ?_ ?_); exact CEq.refl _) | (with_reducible refine wkL ?_) | ((with_reducible fail_if_success first | constructor | show False); conv => whnf)
      refine CallVC.mk' (fun _ => rmay_ok K.m K.v.may x.kind x.page x.data (by omega)) (fun _ => .cons (.one (CEq.refl _)) (.cons (.one (CEq.refl _)) (.cons (.one (CEq.refl _)) .nil))) ?_
      rw [decide_eq_true (show may x.kind x.page x.data from o1)]
      repeat' first | (with_reducible first | refine wkI ?_ | exact ⟨⟩ | refine wkB (fun _ => ?_) fun _ => ?_ | refine wkT (fun _ => ?_) ?_) | ((with_reducible refine wkC ?_ ?_); exact CEq.refl _) | (with_reducible refine wkL ?_) | ((with_reducible fail_if_success first | constructor | show False); conv => whnf)
      · rename_i z
        exfalso
        clear hQ hQ2
        rw [Int.toNat_natCast] at z
        simp at z
      · refine LoopEnd.mk ⟨k + 1, by omega, by omega, ?_⟩
        clear hQ hQ2
        (refine Le.of ?_ ?_ <;> repeat' first | exact trivial | exact CEq.refl _ | exact rfl | exact cI (by push_cast; first | rfl | omega) | exact SubE.dat fun _ _ _ _ => CEq.refl _ | refine SubE.varN ?_ | refine Exists.intro _ (And.intro rfl ?_) | refine And.intro ?_ ?_)
    · rename_i h2
      refine Out.mk (hQ2 _ _ ?_)
      clear hQ2
      repeat' first | (with_reducible first | refine wkI ?_ | exact ⟨⟩ | refine wkB (fun _ => ?_) fun _ => ?_ | refine wkT (fun _ => ?_) ?_) | ((with_reducible refine wkC ?_ ?_); exact CEq.refl _) | (with_reducible refine wkL ?_) | ((with_reducible fail_if_success first | constructor | show False); conv => whnf)
      refine LoopEnd.mk ⟨i + 1, h1, by omega, ?_⟩
      clear hQ
      (refine Le.of ?_ ?_ <;> repeat' first | exact trivial | exact CEq.refl _ | exact rfl | exact cI (by push_cast; first | rfl | omega) | exact SubE.dat fun _ _ _ _ => CEq.refl _ | refine SubE.varN ?_ | refine Exists.intro _ (And.intro rfl ?_) | refine And.intro ?_ ?_)
  · rename_i h1
    refine Out.mk (hQ _ _ ?_)
    clear hQ
    repeat' first | (with_reducible first | refine wkI ?_ | exact ⟨⟩ | refine wkB (fun _ => ?_) fun _ => ?_ | refine wkT (fun _ => ?_) ?_) | ((with_reducible refine wkC ?_ ?_); exact CEq.refl _) | (with_reducible refine wkL ?_) | ((with_reducible fail_if_success first | constructor | show False); conv => whnf)
    refine LoopVC.inv (fun i : Nat => i ≤ s.out.length) (fun i => stL [(1, .va 1 0 0), (7, .c (.int .i64 i))] [(1, sV s)]) (fun i => s.out.length - i) 0 (Nat.zero_le _) ?_ ?_
    · (refine Le.of ?_ ?_ <;> repeat' first | exact trivial | exact CEq.refl _ | exact rfl | exact cI (by push_cast; first | rfl | omega) | exact SubE.dat fun _ _ _ _ => CEq.refl _ | refine SubE.varN ?_ | refine Exists.intro _ (And.intro rfl ?_) | refine And.intro ?_ ?_)
    rintro Q hQ i hi
    repeat' first | (with_reducible first | refine wkI ?_ | exact ⟨⟩ | refine wkB (fun _ => ?_) fun _ => ?_ | refine wkT (fun _ => ?_) ?_) | ((with_reducible refine wkC ?_ ?_); exact CEq.refl _) | (with_reducible refine wkL ?_) | ((with_reducible fail_if_success first | constructor | show False); conv => whnf)
    · rename_i g1
      have g1 : i < s.out.length := by have := of_decide_eq_true g1; omega
      have hod := S.od _ (getD_mem g1)
      obtain ⟨⟨a, b, c⟩, ⟨d1, d2⟩, e1, e2⟩ := h.2.2.2 i g1
      repeat' first | (with_reducible first | refine wkI ?_ | exact ⟨⟩ | refine wkB (fun _ => ?_) fun _ => ?_ | refine wkT (fun _ => ?_) ?_) | ((with_reducible refine wkC ?_ ?_); exact CEq.refl _) | (with_reducible refine wkL ?_) | ((with_reducible fail_if_success first | constructor | show False); conv => whnf)
      · rename_i z
        exfalso
        clear hQ
        rw [Int.toNat_natCast] at z
        generalize s.out.getD i default = x at *
        generalize s.dev.flight.getD i default = r at *
        rw [decide_eq_true a, decide_eq_true b, decide_eq_true c, decide_eq_false (show ¬ x.who < 0 by omega), decide_eq_false (show ¬ (s.jobs.length : Int) ≤ x.who by omega), decide_eq_false (show ¬ x.tries < 1 by omega), decide_eq_false (show ¬ 3 < x.tries by omega)] at z
        exact absurd z (by decide)
      · refine LoopEnd.mk ⟨i + 1, g1, by omega, ?_⟩
        clear hQ
        (refine Le.of ?_ ?_ <;> repeat' first | exact trivial | exact CEq.refl _ | exact rfl | exact cI (by push_cast; first | rfl | omega) | exact SubE.dat fun _ _ _ _ => CEq.refl _ | refine SubE.varN ?_ | refine Exists.intro _ (And.intro rfl ?_) | refine And.intro ?_ ?_)
    · refine Out.mk (hQ _ _ ?_)
      repeat' first | (with_reducible first | refine wkI ?_ | exact ⟨⟩ | refine wkB (fun _ => ?_) fun _ => ?_ | refine wkT (fun _ => ?_) ?_) | ((with_reducible refine wkC ?_ ?_); exact CEq.refl _) | (with_reducible refine wkL ?_) | ((with_reducible fail_if_success first | constructor | show False); conv => whnf)
theorem ragain_ok (K : KR6 P F) (s : Sd) (x : Jb) (hd : rightV s.dev) (ho : s.out.length ≤ 1000000) (hx : x.data.length ≤ 1000000) (ht : 0 ≤ x.tries ∧ x.tries ≤ 3) :
    FnOk P (F 201) [.many 9 (sdE s), .many 5 (jbE x)] [.many 9 (fun j => .im (sdE ⟨s.lanes, s.jobs, (subm s.dev x.kind x.page x.data).1, s.out ++ [⟨x.who, x.kind, x.page, x.data, x.tries + 1⟩]⟩ j))] := by
  refine fnOk K.m K.again ?_
  repeat' first | (with_reducible first | refine wkI ?_ | exact ⟨⟩ | refine wkB (fun _ => ?_) fun _ => ?_ | refine wkT (fun _ => ?_) ?_) | ((with_reducible refine wkC ?_ ?_); exact CEq.refl _) | (with_reducible refine wkL ?_) | ((with_reducible fail_if_success first | constructor | show False); conv => whnf)
  refine CallVC.mk' (fun _ => rsubmit_ok K.v s.dev x.kind x.page x.data (wfV hd) (rightV.small hd) (by omega)) (fun _ => .cons ((mC4 (by rfl))) (.cons (.one (CEq.refl _)) (.cons (.one (CEq.refl _)) (.cons (.one (CEq.refl _)) .nil)))) ?_
  repeat' first | (with_reducible first | refine wkI ?_ | exact ⟨⟩ | refine wkB (fun _ => ?_) fun _ => ?_ | refine wkT (fun _ => ?_) ?_) | ((with_reducible refine wkC ?_ ?_); exact CEq.refl _) | (with_reducible refine wkL ?_) | ((with_reducible fail_if_success first | constructor | show False); conv => whnf)
  refine CallVC.mk' (fun _ => behind_ok K s.out ⟨x.who, x.kind, x.page, x.data, x.tries + 1⟩ ho) (fun _ => .cons (.one (CEq.refl _)) (.cons ((mC5 (by rfl))) .nil)) ?_
  repeat' first | (with_reducible first | refine wkI ?_ | exact ⟨⟩ | refine wkB (fun _ => ?_) fun _ => ?_ | refine wkT (fun _ => ?_) ?_) | ((with_reducible refine wkC ?_ ?_); exact CEq.refl _) | (with_reducible refine wkL ?_) | ((with_reducible fail_if_success first | constructor | show False); conv => whnf)
theorem rask_ok (K : KR6 P F) (s : Sd) (x : Jb) (h : rightS s) (hx : x.data.length ≤ 1000000) :
    FnOk P (F 180) [.many 9 (sdE s), .many 5 (jbE x)] [.many 9 (fun j => .im (sdE (askS s x).1 j)), .one (.im (.int .i64 (askS s x).2))] := by
  refine fnOk K.m K.ask ?_
  have S := h.small
  have hj := S.j
  have hje := h.2.1.1
  have hl6 := h.1.1.1.2
  repeat' first | (with_reducible first | refine wkI ?_ | exact ⟨⟩ | refine wkB (fun _ => ?_) fun _ => ?_ | refine wkT (fun _ => ?_) ?_) | ((with_reducible refine wkC ?_ ?_); exact CEq.refl _) | (with_reducible refine wkL ?_) | ((with_reducible fail_if_success first | constructor | show False); conv => whnf)
  refine CallVC.mk' (fun _ => rright6_ok K s h) (fun _ => .cons ((mC9 (by rfl))) .nil) ?_
  repeat' first | (with_reducible first | refine wkI ?_ | exact ⟨⟩ | refine wkB (fun _ => ?_) fun _ => ?_ | refine wkT (fun _ => ?_) ?_) | ((with_reducible refine wkC ?_ ?_); exact CEq.refl _) | (with_reducible refine wkL ?_) | ((with_reducible fail_if_success first | constructor | show False); conv => whnf)
  refine CallVC.mk' (fun _ => rmay_ok K.m K.v.may x.kind x.page x.data (by omega)) (fun _ => .cons (.one (CEq.refl _)) (.cons (.one (CEq.refl _)) (.cons (.one (CEq.refl _)) .nil))) ?_
  repeat' first | (with_reducible first | refine wkI ?_ | exact ⟨⟩ | refine wkB (fun _ => ?_) fun _ => ?_ | refine wkT (fun _ => ?_) ?_) | ((with_reducible refine wkC ?_ ?_); exact CEq.refl _) | (with_reducible refine wkL ?_) | ((with_reducible fail_if_success first | constructor | show False); conv => whnf)
  · rename_i z
    have z : askNo s x := by
      rw [Bool.not_true, Bool.false_or] at z
      simp only [Bool.or_eq_true, Bool.not_eq_true', decide_eq_false_iff_not, decide_eq_true_eq, or_assoc] at z
      rcases z with z | z | z | z
      · exact .inr (.inl z)
      · exact .inr (.inr (.inl z))
      · exact .inr (.inr (.inr (.inl z)))
      · exact .inr (.inr (.inr (.inr z)))
    rw [show askS s x = (s, 1) from if_pos z]
    repeat' first | (with_reducible first | refine wkI ?_ | exact ⟨⟩ | refine wkB (fun _ => ?_) fun _ => ?_ | refine wkT (fun _ => ?_) ?_) | ((with_reducible refine wkC ?_ ?_); exact CEq.refl _) | (with_reducible refine wkL ?_) | ((with_reducible fail_if_success first | constructor | show False); conv => whnf)
  rename_i z
  have z : ¬ askNo s x := by
    rw [Bool.not_true, Bool.false_or] at z
    simp only [Bool.or_eq_false_iff, Bool.not_eq_false', decide_eq_true_eq, decide_eq_false_iff_not] at z
    rintro (y | y | y | y | y)
    · exact y h
    · exact y z.1.1.1
    · exact z.1.1.2 y
    · exact z.1.2 y
    · exact y z.2
  have hw0 : 0 ≤ x.who := by have : ¬ x.who < 0 := fun y => z (.inr (.inr (.inl y))); omega
  have hw1 : x.who < s.jobs.length := by have : ¬ (s.jobs.length : Int) ≤ x.who := fun y => z (.inr (.inr (.inr (.inl y)))); omega
  have hxo : jobOk x := Classical.byContradiction fun y => z (.inr (.inr (.inr (.inr y))))
  obtain ⟨w, hw⟩ : ∃ w : Nat, x.who = w := ⟨x.who.toNat, by omega⟩
  have hwn : w < s.jobs.length := by omega
  have hjk := h.2.2.1 w hwn
  have hc2 := (h.1.1.2.2 w (by omega)).2.2.1
  have he : askS s x = if 200 ≤ (s.jobs.getD w default).length then (s, 7) else (⟨S05.pushX s.lanes w (cost x.kind), s.jobs.set w (s.jobs.getD w default ++ [x]), s.dev, s.out⟩, 0) := by
    unfold askS
    rw [if_neg z, hw, Int.toNat_natCast]
  repeat' first | (with_reducible first | refine wkI ?_ | exact ⟨⟩ | refine wkB (fun _ => ?_) fun _ => ?_ | refine wkT (fun _ => ?_) ?_) | ((with_reducible refine wkC ?_ ?_); exact CEq.refl _) | (with_reducible refine wkL ?_) | ((with_reducible fail_if_success first | constructor | show False); conv => whnf)
  · rename_i z2
    have z2 := of_decide_eq_true z2
    rw [hw, Int.toNat_natCast] at z2
    rw [if_pos (by omega)] at he
    rw [he]
    repeat' first | (with_reducible first | refine wkI ?_ | exact ⟨⟩ | refine wkB (fun _ => ?_) fun _ => ?_ | refine wkT (fun _ => ?_) ?_) | ((with_reducible refine wkC ?_ ?_); exact CEq.refl _) | (with_reducible refine wkL ?_) | ((with_reducible fail_if_success first | constructor | show False); conv => whnf)
  rename_i z2
  have z2 := of_decide_eq_false z2
  rw [hw, Int.toNat_natCast] at z2
  rw [if_neg (by have := hjk.1; omega)] at he
  rw [he]
  obtain ⟨p1, p2, p3⟩ := pushX_right h.1.1 (k := w) (c := cost x.kind) (by omega) (cost_bd hxo) (by have := hjk.1; omega)
  have q3 : ∀ i, (s.jobs.set w (s.jobs.getD w default ++ [x])).getD i default = if w = i then s.jobs.getD w default ++ [x] else s.jobs.getD i default := fun i => set_at hwn
  have q2 : (s.jobs.set w (s.jobs.getD w default ++ [x])).length = s.jobs.length := List.length_set
  have hcw : (s.jobs.getD w default).length ≤ 200 := by have := hjk.1; omega
  clear he z hjk z2
  have e1 : (S05.pushX s.lanes w (cost x.kind)).at_ = s.lanes.at_ := rfl
  have e2 : (S05.pushX s.lanes w (cost x.kind)).given = s.lanes.given := rfl
  generalize S05.pushX s.lanes w (cost x.kind) = L at *
  generalize s.jobs.set w (s.jobs.getD w default ++ [x]) = J at *
  refine LoopVC.inv (fun i : Nat => i ≤ s.jobs.length) (fun i => stL [(2, .va 2 0 0), (3, .va 3 0 0), (4, .va 4 0 0), (6, .va 6 0 0), (7, .c (.int .i64 i))]
    [(2, sV s), (3, vE [.c (.int .i64 x.who), .c (.int .i64 x.kind), .c (.int .i64 x.page), .c (.str x.data), .c (.int .i64 x.tries)]), (4, vE [.nil 3, .c (.int .i64 0), .c (.bool false), .nil 1, .nil 1, .nil 2, .c (.int .i64 0), .nil 4, .nil 5]),
     (6, vE [.os 108 0 3 0 i, .c (.int .i64 s.lanes.at_), .c (.bool s.lanes.given), .os 115 0 1 0 i, .c (slL 1 strE s.dev.disk.secs), .c (slL 2 wrE s.dev.disk.cache), .c (.int .i64 s.dev.next), .c (slL 4 rqE s.dev.flight), .c (slL 5 jbE s.out)]),
     (108, ⟨3, i, .dat fun r j => S05.lnE (L.list.getD r default) j, false, true⟩), (115, ⟨1, i, .dat fun r j => jlE (J.getD r default) j, false, true⟩)]) (fun i => s.jobs.length - i) 0 (Nat.zero_le _) ?_ ?_
  · (refine Le.ofN [108, 115] ?_ ?_ <;> repeat' first | exact trivial | exact SubF.inr ⟨_, _, _, rfl, rfl, rfl⟩ | exact SubF.inl (cI (by push_cast; first | rfl | omega)) | exact SubF.inl (CEq.refl _) | exact SubF.inl rfl | exact SubF.inl trivial | exact SubF.inl ⟨rfl, rfl, rfl⟩ | exact SubF.inl ⟨rfl, rfl, rfl, rfl, rfl⟩ | exact Or.inl ⟨rfl, rfl⟩ | refine Or.inr ⟨rfl, _, rfl, ?_⟩ | refine SubEF.var2 ?_ ?_ | refine SubEF.var1 ?_ | refine SubEF.var3 ?_ ?_ ?_ | refine SubEF.varN ?_ | refine SubEF.var4 ?_ ?_ ?_ ?_ | exact SubEF.of (SubE.dat fun _ _ _ _ => CEq.refl _) | refine And.intro ?_ ?_ | refine SubF.frz rfl rfl rfl rfl (Nat.le_of_eq (Nat.zero_add _)) rfl rfl ?_)
  rintro Q hQ i hi
  repeat' first | (with_reducible first | refine wkI ?_ | exact ⟨⟩ | refine wkB (fun _ => ?_) fun _ => ?_ | refine wkT (fun _ => ?_) ?_) | ((with_reducible refine wkC ?_ ?_); exact CEq.refl _) | (with_reducible refine wkL ?_) | ((with_reducible fail_if_success first | constructor | show False); conv => whnf)
  · rename_i g1
    have g1 : i < s.jobs.length := by have := of_decide_eq_true g1; omega
    have hl200 := (h.1.1.2.2 i (by omega)).2.2.1
    repeat' first | (with_reducible first | refine wkI ?_ | exact ⟨⟩ | refine wkB (fun _ => ?_) fun _ => ?_ | refine wkT (fun _ => ?_) ?_) | ((with_reducible refine wkC ?_ ?_); exact CEq.refl _) | (with_reducible refine wkL ?_) | ((with_reducible fail_if_success first | constructor | show False); conv => whnf)
    · rename_i g2
      have g2 : i = w := by have := of_decide_eq_true g2; omega
      subst g2
      repeat' first | (with_reducible first | refine wkI ?_ | exact ⟨⟩ | refine wkB (fun _ => ?_) fun _ => ?_ | refine wkT (fun _ => ?_) ?_) | ((with_reducible refine wkC ?_ ?_); exact CEq.refl _) | (with_reducible refine wkL ?_) | ((with_reducible fail_if_success first | constructor | show False); conv => whnf)
      refine CallVC.mk' (fun _ => rcost_ok K x.kind) (fun _ => .cons (.one (CEq.refl _)) .nil) ?_
      repeat' first | (with_reducible first | refine wkI ?_ | exact ⟨⟩ | refine wkB (fun _ => ?_) fun _ => ?_ | refine wkT (fun _ => ?_) ?_) | ((with_reducible refine wkC ?_ ?_); exact CEq.refl _) | (with_reducible refine wkL ?_) | ((with_reducible fail_if_success first | constructor | show False); conv => whnf)
      refine CallVC.mk' (fun _ => behind_ok K (s.jobs.getD i default) x (by omega)) (fun _ => .cons (.one (CEq.refl _)) (.cons ((mC5 (by rfl))) .nil)) ?_
      repeat' first | (with_reducible first | refine wkI ?_ | exact ⟨⟩ | refine wkB (fun _ => ?_) fun _ => ?_ | refine wkT (fun _ => ?_) ?_) | ((with_reducible refine wkC ?_ ?_); exact CEq.refl _) | (with_reducible refine wkL ?_) | ((with_reducible fail_if_success first | constructor | show False); conv => whnf)
      refine LoopEnd.mk ⟨i + 1, g1, by omega, ?_⟩
      clear hQ
      (refine Le.of ?_ ?_ <;> repeat' first | exact trivial | exact CEq.refl _ | exact rfl | exact cI (by push_cast; first | rfl | omega) | exact SubE.dat fun _ _ _ _ => CEq.refl _ | refine SubE.varN ?_ | refine Exists.intro _ (And.intro rfl ?_) | refine And.intro ?_ ?_)
      · refine SubE.dat (app_row (enc := S05.lnE) (L := L.list) fun j hj => ?_)
        rw [p3 i (by omega), if_pos rfl]
        have hj : j < 3 := hj
        rcases (show j = 0 ∨ j = 1 ∨ j = 2 by omega) with rfl | rfl | rfl
        · exact CEq.refl _
        · exact CEq.refl _
        · refine CEq.trans (CEq.slice fun r hr j hj => ?_) (IsL.ceq (l := (s.lanes.list.getD i default).costs ++ [cost x.kind]) (IsL.app (size := 1) (enc := S05.intE) (l := (s.lanes.list.getD i default).costs) IsL.refl rfl (g := fun _ _ => .int .i64 (rcst x.kind)) (IsL.one fun j hj => eI (rcst_cost hxo))) (by rw [List.length_append, Int.toNat_natCast]; rfl))
          show CEq (appC _ _ _ (addN 0 r) j) _
          rw [addN_eq, Nat.zero_add, Int.toNat_natCast, appC_at, appC_at]
          obtain rfl : j = 0 := by have hj : j < 1 := hj; omega
          by_cases e : (s.lanes.list.getD i default).costs.length ≤ r
          · obtain rfl : r = (s.lanes.list.getD i default).costs.length := by rw [Int.toNat_natCast] at hr; omega
            rw [if_pos (Nat.le_refl _), if_pos (Nat.le_refl _), Nat.sub_self]
            exact CEq.refl _
          · rw [if_neg e, if_neg e]
            exact CEq.refl _
      · refine SubE.dat (app_row (enc := jlE) (L := J) fun j hj => ?_)
        rw [q3 i, if_pos rfl]
        have hj : j < 1 := hj
        obtain rfl : j = 0 := by omega
        exact CEq.refl _
    · rename_i g2
      have g2 : i ≠ w := by have := of_decide_eq_false g2; omega
      repeat' first | (with_reducible first | refine wkI ?_ | exact ⟨⟩ | refine wkB (fun _ => ?_) fun _ => ?_ | refine wkT (fun _ => ?_) ?_) | ((with_reducible refine wkC ?_ ?_); exact CEq.refl _) | (with_reducible refine wkL ?_) | ((with_reducible fail_if_success first | constructor | show False); conv => whnf)
      refine LoopEnd.mk ⟨i + 1, g1, by omega, ?_⟩
      clear hQ
      (refine Le.of ?_ ?_ <;> repeat' first | exact trivial | exact CEq.refl _ | exact rfl | exact cI (by push_cast; first | rfl | omega) | exact SubE.dat fun _ _ _ _ => CEq.refl _ | refine SubE.varN ?_ | refine Exists.intro _ (And.intro rfl ?_) | refine And.intro ?_ ?_)
      · refine SubE.dat (app_row (enc := S05.lnE) (L := L.list) fun j hj => ?_)
        rw [p3 i (by omega), if_neg g2]
        have hj : j < 3 := hj
        rcases (show j = 0 ∨ j = 1 ∨ j = 2 by omega) with rfl | rfl | rfl <;> exact CEq.refl _
      · refine SubE.dat (app_row (enc := jlE) (L := J) fun j hj => ?_)
        rw [q3 i, if_neg (fun x => g2 x.symm)]
        have hj : j < 1 := hj
        obtain rfl : j = 0 := by omega
        exact CEq.refl _
  · rename_i g1
    have g1 : i = s.jobs.length := by have := of_decide_eq_false g1; omega
    refine Out.mk (hQ _ _ ?_)
    clear hQ
    repeat' first | (with_reducible first | refine wkI ?_ | exact ⟨⟩ | refine wkB (fun _ => ?_) fun _ => ?_ | refine wkT (fun _ => ?_) ?_) | ((with_reducible refine wkC ?_ ?_); exact CEq.refl _) | (with_reducible refine wkL ?_) | ((with_reducible fail_if_success first | constructor | show False); conv => whnf)
    refine Need.mk (IsL.ceq (l := L.list) (IsL.refl.off) (by omega)) ?_
    repeat' first | (with_reducible first | refine wkI ?_ | exact ⟨⟩ | refine wkB (fun _ => ?_) fun _ => ?_ | refine wkT (fun _ => ?_) ?_) | ((with_reducible refine wkC ?_ ?_); exact CEq.refl _) | (with_reducible refine wkL ?_) | ((with_reducible fail_if_success first | constructor | show False); conv => whnf)
    refine Need.mk (eI e1.symm) ?_
    repeat' first | (with_reducible first | refine wkI ?_ | exact ⟨⟩ | refine wkB (fun _ => ?_) fun _ => ?_ | refine wkT (fun _ => ?_) ?_) | ((with_reducible refine wkC ?_ ?_); exact CEq.refl _) | (with_reducible refine wkL ?_) | ((with_reducible fail_if_success first | constructor | show False); conv => whnf)
    refine Need.mk (eB (by rw [e2])) ?_
    repeat' first | (with_reducible first | refine wkI ?_ | exact ⟨⟩ | refine wkB (fun _ => ?_) fun _ => ?_ | refine wkT (fun _ => ?_) ?_) | ((with_reducible refine wkC ?_ ?_); exact CEq.refl _) | (with_reducible refine wkL ?_) | ((with_reducible fail_if_success first | constructor | show False); conv => whnf)
    refine Need.mk (IsL.ceq (l := J) (IsL.refl.off) (by omega)) ?_
    repeat' first | (with_reducible first | refine wkI ?_ | exact ⟨⟩ | refine wkB (fun _ => ?_) fun _ => ?_ | refine wkT (fun _ => ?_) ?_) | ((with_reducible refine wkC ?_ ?_); exact CEq.refl _) | (with_reducible refine wkL ?_) | ((with_reducible fail_if_success first | constructor | show False); conv => whnf)
end
end Lk.S06
