/-
  Gs06b: what these chapters need.
-/
import Derived.Test.YtaijfhomokkpeaaGs06a
set_option linter.unusedSimpArgs false
set_option linter.unusedVariables false
namespace Lk.S06
open Go Lk Lk.C Lk.S03 Lk.S04
structure Ac where
  kind : Int
  n : Int
  j : Jb
instance : Inhabited Ac := ⟨⟨0, 0, default⟩⟩
def acE (a : Ac) (j : Nat) : Cell :=
  match j with
  | 0 => .int .i64 a.kind
  | 1 => .int .i64 a.n
  | 2 => .int .i64 a.j.who
  | 3 => .int .i64 a.j.kind
  | 4 => .int .i64 a.j.page
  | 5 => .str a.j.data
  | _ => .int .i64 a.j.tries
def EAc : Enc Ac where
  sh := [.int .i64, .int .i64, .int .i64, .int .i64, .int .i64, .str, .int .i64]
  enc := acE
  wf x := x.j.data.length ≤ 9223372036854775807 ∧ (rng .i64 x.n ∧ rng .i64 x.kind) ∧ EJb.wf x.j
  dec g h := by
    obtain ⟨k, hk, r1⟩ := (h 0 _ rfl).intE
    obtain ⟨n, hn, r2⟩ := (h 1 _ rfl).intE
    obtain ⟨a, ha, r3⟩ := (h 2 _ rfl).intE
    obtain ⟨b, hb, _⟩ := (h 3 _ rfl).intE
    obtain ⟨c, hc, _⟩ := (h 4 _ rfl).intE
    obtain ⟨s, hs, hl⟩ := (h 5 _ rfl).strE
    obtain ⟨e, he, r4⟩ := (h 6 _ rfl).intE
    refine ⟨⟨k, n, ⟨a, b, c, s, e⟩⟩, ⟨hl, ⟨r2, r1⟩, hl, r3, r4⟩, fun j hj => ?_⟩
    have hj : j < 7 := hj
    rcases (show j = 0 ∨ j = 1 ∨ j = 2 ∨ j = 3 ∨ j = 4 ∨ j = 5 ∨ j = 6 by omega) with rfl | rfl | rfl | rfl | rfl | rfl | rfl
    · rw [hk]; exact CEq.refl _
    · rw [hn]; exact CEq.refl _
    · rw [ha]; exact CEq.refl _
    · rw [hb]; exact CEq.refl _
    · rw [hc]; exact CEq.refl _
    · rw [hs]; exact CEq.refl _
    · rw [he]; exact CEq.refl _
/-- How it stands behind i acts. -/
structure ON (i a t : Nat) (s : Sd) : Prop where
  r : rightS s
  n : s.dev.next ≤ 4 * i
  e : a = t + (s.out.length + wtg s.jobs)
  a : a ≤ i
variable {i a t : Nat} {s : Sd}
theorem ON.ask (h : ON i a t s) (x : Jb) : ON (i + 1) (a + (if (askS s x).2 = 0 then 1 else 0)) t (askS s x).1 := by
  obtain ⟨f1, f2, f3, f4, f5⟩ := ask_fx (s := s) (x := x)
  have := h.e
  have := h.a
  have := h.n
  exact ⟨ask_right h.r, by rw [f2]; omega, by rw [f1, f3]; omega, by split <;> omega⟩
theorem ON.pump (h : ON i a t s) : ON (i + 1) a t (pumpS s) := by
  obtain ⟨f1, f2, f3, f4⟩ := pump_fx h.r
  have := h.e
  have := h.a
  have := h.n
  exact ⟨pump_right h.r, by omega, by omega, by omega⟩
theorem ON.done (h : ON i a t s) (n : Int) (f : Bool) : ON (i + 1) a (t + (if (doneS s n f).2.2.2 = true then 1 else 0)) (doneS s n f).1 := by
  obtain ⟨f1, f2, f3, f4, f5⟩ := done_fx (i := n) (f := f) h.r
  have := h.e
  have := h.a
  have := h.n
  exact ⟨done_right h.r, by omega, by rw [f1]; omega, by omega⟩
theorem ON.skip (h : ON i a t s) : ON (i + 1) a t s := ⟨h.r, by have := h.n; omega, h.e, by have := h.a; omega⟩
def p0 : Sd := (newS v0 [1, 3]).1
theorem p0e : (newS v0 [1, 3]).2 = 0 := by decide +kernel
theorem p0r : rightS p0 := by decide +kernel
theorem p0n : p0.dev.next = 0 ∧ p0.out.length = 0 ∧ wtg p0.jobs = 0 := by decide +kernel
theorem ON.zero : ON 0 0 0 p0 := ⟨p0r, by rw [p0n.1]; decide, by rw [p0n.2.1, p0n.2.2], Nat.le_refl _⟩
/-- What is asked of each act's state. -/
theorem wtg_bd {m : Nat} (h : rightS s) : wtg (s.jobs.take m) ≤ 1000000 := by
  have key : ∀ k, k ≤ s.jobs.length → wtg (s.jobs.take k) ≤ 200 * k := fun k => by
    induction k with
    | zero => intro _; rw [List.take_zero]; exact Nat.le_refl 0
    | succ k ih =>
      intro hk
      have := ih (by omega)
      have h1 := (h.2.2.1 k (by omega)).1
      have h2 := (h.1.1.2.2 k (by have := h.2.1.1; omega)).2.2.1
      rw [wtg_take (by omega)]
      omega
  have h6 := h.1.1.1.2
  have hl := h.2.1.1
  by_cases e : m ≤ s.jobs.length
  · have := key m e; omega
  · rw [List.take_of_length_le (by omega)]
    have := key s.jobs.length (Nat.le_refl _)
    rw [List.take_length] at this
    omega
section
variable {P : Program} {F : Nat → Nat}
set_option maxHeartbeats 8000000 in
set_option maxRecDepth 100000 in
theorem schedOnce_law (L : KLS P F) (hk : law06_SchedOnce_k P F) (acts : List Ac) (W : (∀ x ∈ acts, EAc.wf x) ∧ acts.length ≤ 9223372036854775807) : FnOk P (F 161) [.one (slL 7 acE acts)] [.one (.im (.bool true))] := by
  have K := L.k
  refine fnOk K.d.k.m hk ?_
  repeat' first | (with_reducible first | refine nI1 ?_ | refine nI2 ?_ | refine nI3 ?_ | exact ⟨⟩ | refine Both.mk (fun _ => ?_) fun _ => ?_ | refine Both2.mk (fun _ => ?_) ?_) | ((with_reducible refine Need.mk ?_ ?_; show CEq _ _); exact CEq.refl _) | (with_reducible refine Need.mk ?_ ?_; (first | omega | exact CEq.refl _ | (dsimp only [rng]; omega) | (rw [Int.toNat_natCast]; omega) | (simp only [addN_eq]; omega))) | ((with_reducible fail_if_success first | constructor | show False); conv => whnf)
  refine CallVC.mk' (fun _ => S04.new_ok K.d L.new4) (fun _ => .nil) ?_
  repeat' first | (with_reducible first | refine nI1 ?_ | refine nI2 ?_ | refine nI3 ?_ | exact ⟨⟩ | refine Both.mk (fun _ => ?_) fun _ => ?_ | refine Both2.mk (fun _ => ?_) ?_) | ((with_reducible refine Need.mk ?_ ?_; show CEq _ _); exact CEq.refl _) | (with_reducible refine Need.mk ?_ ?_; (first | omega | exact CEq.refl _ | (dsimp only [rng]; omega) | (rw [Int.toNat_natCast]; omega) | (simp only [addN_eq]; omega))) | ((with_reducible fail_if_success first | constructor | show False); conv => whnf)
  refine CallVC.mk' (fun _ => newS_ok K v0 [1, 3] sv0' (by decide)) (fun _ => .cons ((.many fun j hj => by (rcases (show j = 0 ∨ j = 1 ∨ j = 2 ∨ j = 3 by omega) with rfl | rfl | rfl | rfl <;> exact CEq.refl _))) (.cons (.one (IsL.ceq (l := [1, 3]) (fun i hi j hj => by (obtain rfl : j = 0 := (by omega)); (rcases (show i = 0 ∨ i = 1 by (have hi : i < 2 := hi; omega)) with rfl | rfl <;> exact CEq.refl _)) rfl)) .nil)) ?_
  rw [p0e, show (newS v0 [1, 3]).1 = p0 from rfl]
  have I0 := ON.zero
  generalize p0 = s0 at *
  repeat' first | (with_reducible first | refine nI1 ?_ | refine nI2 ?_ | refine nI3 ?_ | exact ⟨⟩ | refine Both.mk (fun _ => ?_) fun _ => ?_ | refine Both2.mk (fun _ => ?_) ?_) | ((with_reducible refine Need.mk ?_ ?_; show CEq _ _); exact CEq.refl _) | (with_reducible refine Need.mk ?_ ?_; (first | omega | exact CEq.refl _ | (dsimp only [rng]; omega) | (rw [Int.toNat_natCast]; omega) | (simp only [addN_eq]; omega))) | ((with_reducible fail_if_success first | constructor | show False); conv => whnf)
  · refine CallVC.mk' (fun _ => awake_ok L) (fun _ => .nil) ?_
    repeat' first | (with_reducible first | refine nI1 ?_ | refine nI2 ?_ | refine nI3 ?_ | exact ⟨⟩ | refine Both.mk (fun _ => ?_) fun _ => ?_ | refine Both2.mk (fun _ => ?_) ?_) | ((with_reducible refine Need.mk ?_ ?_; show CEq _ _); exact CEq.refl _) | (with_reducible refine Need.mk ?_ ?_; (first | omega | exact CEq.refl _ | (dsimp only [rng]; omega) | (rw [Int.toNat_natCast]; omega) | (simp only [addN_eq]; omega))) | ((with_reducible fail_if_success first | constructor | show False); conv => whnf)
  rename_i h60
  have h60 : acts.length ≤ 60 := by
    rw [show (!decide ((0 : Int) = 0)) = false from rfl, Bool.false_or] at h60
    have := of_decide_eq_false h60; omega
  refine LoopVC.inv (X := Sd × Nat × Nat × Nat) (fun x => x.2.2.2 ≤ acts.length ∧ ON x.2.2.2 x.2.1 x.2.2.1 x.1) (fun x => stL [(3, .va 3 0 0), (5, .c (.int .i64 x.2.1)), (6, .c (.int .i64 x.2.2.1)), (36, .c (slL 7 acE acts)), (37, .c (.int .i64 acts.length)), (38, .c (.int .i64 x.2.2.2))] [(3, sV x.1)])
    (fun x => acts.length - x.2.2.2) (s0, 0, 0, 0) ⟨Nat.zero_le _, I0⟩ ?_ ?_
  · (refine Le.of ?_ ?_ <;> repeat' first | exact trivial | exact CEq.refl _ | exact rfl | exact cI (by push_cast; first | rfl | omega) | exact SubE.dat fun _ _ _ _ => CEq.refl _ | refine SubE.var2 ?_ ?_ | refine SubE.var1 ?_ | refine SubE.var3 ?_ ?_ ?_ | refine SubE.var4 ?_ ?_ ?_ ?_ | refine SubE.var5 ?_ ?_ ?_ ?_ ?_ | refine SubE.varN ?_ | refine Exists.intro _ (And.intro rfl ?_) | refine And.intro ?_ ?_)
  rintro Q hQ ⟨s, a, t, i⟩ ⟨hi, I⟩
  dsimp only at hi I
  dsimp only
  have S := I.r.small
  repeat' first | (with_reducible first | refine nI1 ?_ | refine nI2 ?_ | refine nI3 ?_ | exact ⟨⟩ | refine Both.mk (fun _ => ?_) fun _ => ?_ | refine Both2.mk (fun _ => ?_) ?_) | ((with_reducible refine Need.mk ?_ ?_; show CEq _ _); exact CEq.refl _) | (with_reducible refine Need.mk ?_ ?_; (first | omega | exact CEq.refl _ | (dsimp only [rng]; omega) | (rw [Int.toNat_natCast]; omega) | (simp only [addN_eq]; omega))) | ((with_reducible fail_if_success first | constructor | show False); conv => whnf)
  · rename_i g
    have g : i < acts.length := by have := of_decide_eq_true g; omega
    have Wx := W.1 _ (getD_mem g)
    have h1 : i + 1 ≤ acts.length := g
    have hal := I.a
    have htl := I.e
    have h4 := I.n
    repeat' first | (with_reducible first | refine nI1 ?_ | refine nI2 ?_ | refine nI3 ?_ | exact ⟨⟩ | refine Both.mk (fun _ => ?_) fun _ => ?_ | refine Both2.mk (fun _ => ?_) ?_) | ((with_reducible refine Need.mk ?_ ?_; show CEq _ _); exact CEq.refl _) | (with_reducible refine Need.mk ?_ ?_; (first | omega | exact CEq.refl _ | (dsimp only [rng]; omega) | (rw [Int.toNat_natCast]; omega) | (simp only [addN_eq]; omega))) | ((with_reducible fail_if_success first | constructor | show False); conv => whnf)
    · refine CallVC.mk' (fun _ => ask_ok K s (acts.getD i default).j S Wx.1) (fun _ => .cons ((.many fun j hj => by (rcases (show j = 0 ∨ j = 1 ∨ j = 2 ∨ j = 3 ∨ j = 4 ∨ j = 5 ∨ j = 6 ∨ j = 7 ∨ j = 8 by omega) with rfl | rfl | rfl | rfl | rfl | rfl | rfl | rfl | rfl <;> exact CEq.refl _))) (.cons ((.many fun j hj => by (rcases (show j = 0 ∨ j = 1 ∨ j = 2 ∨ j = 3 ∨ j = 4 by omega) with rfl | rfl | rfl | rfl | rfl <;> exact CEq.refl _))) .nil)) ?_
      have I1 := I.ask (acts.getD i default).j
      generalize (askS s (acts.getD i default).j).1 = s2 at *
      generalize (askS s (acts.getD i default).j).2 = e2 at *
      repeat' first | (with_reducible first | refine nI1 ?_ | refine nI2 ?_ | refine nI3 ?_ | exact ⟨⟩ | refine Both.mk (fun _ => ?_) fun _ => ?_ | refine Both2.mk (fun _ => ?_) ?_) | ((with_reducible refine Need.mk ?_ ?_; show CEq _ _); exact CEq.refl _) | (with_reducible refine Need.mk ?_ ?_; (first | omega | exact CEq.refl _ | (dsimp only [rng]; omega) | (rw [Int.toNat_natCast]; omega) | (simp only [addN_eq]; omega))) | ((with_reducible fail_if_success first | constructor | show False); conv => whnf)
      · rename_i z
        rw [if_pos (of_decide_eq_true z)] at I1
        have I2 : ON (i + 1) (a + 1) t s2 := I1
        have hol : s2.out.length ≤ 4 := by have := I2.r.2.1.2; have := I2.r.1.2.2.1.2.2; omega
        have S2 := I2.r.small
        have hj2 := S2.j
        have ho2 := S2.o
        have ha2 := I2.a
        have he2 := I2.e
        refine LoopVC.inv (fun m : Nat => m ≤ s2.jobs.length) (fun m => stL [(3, .va 3 0 0), (5, .c (.int .i64 ((a + 1 : Nat) : Int))), (6, .c (.int .i64 ((t : Nat) : Int))), (15, .c (.int .i64 ((s2.out.length + wtg (s2.jobs.take m) : Nat) : Int))), (36, .c (slL 7 acE acts)), (37, .c (.int .i64 acts.length)), (38, .c (.int .i64 i)),
            (105, .c (slL 1 jlE s2.jobs)), (106, .c (.int .i64 s2.jobs.length)), (107, .c (.int .i64 m))] [(3, sV s2)]) (fun m => s2.jobs.length - m) 0 (Nat.zero_le _) ?_ ?_
        · clear hQ
          (refine Le.of ?_ ?_ <;> repeat' first | exact trivial | exact CEq.refl _ | exact rfl | exact cI (by push_cast; first | rfl | omega) | exact SubE.dat fun _ _ _ _ => CEq.refl _ | refine SubE.var2 ?_ ?_ | refine SubE.var1 ?_ | refine SubE.var3 ?_ ?_ ?_ | refine SubE.var4 ?_ ?_ ?_ ?_ | refine SubE.var5 ?_ ?_ ?_ ?_ ?_ | refine SubE.varN ?_ | refine Exists.intro _ (And.intro rfl ?_) | refine And.intro ?_ ?_)
        rintro Q2 hQ2 m hm
        repeat' first | (with_reducible first | refine nI1 ?_ | refine nI2 ?_ | refine nI3 ?_ | exact ⟨⟩ | refine Both.mk (fun _ => ?_) fun _ => ?_ | refine Both2.mk (fun _ => ?_) ?_) | ((with_reducible refine Need.mk ?_ ?_; show CEq _ _); exact CEq.refl _) | (with_reducible refine Need.mk ?_ ?_; (first | omega | exact CEq.refl _ | (dsimp only [rng]; omega) | (rw [Int.toNat_natCast]; omega) | (simp only [addN_eq]; omega))) | ((with_reducible fail_if_success first | constructor | show False); conv => whnf)
        · rename_i g
          have g : m < s2.jobs.length := by have := of_decide_eq_true g; omega
          have ht := wtg_take g
          have hjl := S2.jl _ (getD_mem g)
          have hb : wtg (s2.jobs.take m) ≤ 1000000 := wtg_bd I2.r
          repeat' first | (with_reducible first | refine nI1 ?_ | refine nI2 ?_ | refine nI3 ?_ | exact ⟨⟩ | refine Both.mk (fun _ => ?_) fun _ => ?_ | refine Both2.mk (fun _ => ?_) ?_) | ((with_reducible refine Need.mk ?_ ?_; show CEq _ _); exact CEq.refl _) | (with_reducible refine Need.mk ?_ ?_; (first | omega | exact CEq.refl _ | (dsimp only [rng]; omega) | (rw [Int.toNat_natCast]; omega) | (simp only [addN_eq]; omega))) | ((with_reducible fail_if_success first | constructor | show False); conv => whnf)
          refine Need.mk (by rw [Int.toNat_natCast]; dsimp only [rng]; omega) ?_
          repeat' first | (with_reducible first | refine nI1 ?_ | refine nI2 ?_ | refine nI3 ?_ | exact ⟨⟩ | refine Both.mk (fun _ => ?_) fun _ => ?_ | refine Both2.mk (fun _ => ?_) ?_) | ((with_reducible refine Need.mk ?_ ?_; show CEq _ _); exact CEq.refl _) | (with_reducible refine Need.mk ?_ ?_; (first | omega | exact CEq.refl _ | (dsimp only [rng]; omega) | (rw [Int.toNat_natCast]; omega) | (simp only [addN_eq]; omega))) | ((with_reducible fail_if_success first | constructor | show False); conv => whnf)
          refine LoopEnd.mk ⟨m + 1, g, by omega, ?_⟩
          clear hQ hQ2
          (refine Le.of ?_ ?_ <;> repeat' first | exact trivial | exact CEq.refl _ | exact rfl | exact cI (by push_cast; first | rfl | omega) | exact SubE.dat fun _ _ _ _ => CEq.refl _ | refine SubE.var2 ?_ ?_ | refine SubE.var1 ?_ | refine SubE.var3 ?_ ?_ ?_ | refine SubE.var4 ?_ ?_ ?_ ?_ | refine SubE.var5 ?_ ?_ ?_ ?_ ?_ | refine SubE.varN ?_ | refine Exists.intro _ (And.intro rfl ?_) | refine And.intro ?_ ?_)
          exact cI (by rw [ht, Int.toNat_natCast]; push_cast; omega)
        · rename_i g
          have g : m = s2.jobs.length := by have := of_decide_eq_false g; omega
          subst g
          rw [List.take_length]
          refine Out.mk (hQ2 _ _ ?_)
          clear hQ2
          repeat' first | (with_reducible first | refine nI1 ?_ | refine nI2 ?_ | refine nI3 ?_ | exact ⟨⟩ | refine Both.mk (fun _ => ?_) fun _ => ?_ | refine Both2.mk (fun _ => ?_) ?_) | ((with_reducible refine Need.mk ?_ ?_; show CEq _ _); exact CEq.refl _) | (with_reducible refine Need.mk ?_ ?_; (first | omega | exact CEq.refl _ | (dsimp only [rng]; omega) | (rw [Int.toNat_natCast]; omega) | (simp only [addN_eq]; omega))) | ((with_reducible fail_if_success first | constructor | show False); conv => whnf)
          · rename_i g
            exfalso
            clear hQ
            rw [Bool.or_eq_true, Bool.not_eq_true', decide_eq_false_iff_not, decide_eq_true_eq] at g
            omega
          · refine LoopEnd.mk ⟨(s2, a + 1, t, i + 1), ⟨h1, I2⟩, by show acts.length - (i + 1) < acts.length - i; omega, ?_⟩
            clear hQ
            (refine Le.of ?_ ?_ <;> repeat' first | exact trivial | exact CEq.refl _ | exact rfl | exact cI (by push_cast; first | rfl | omega) | exact SubE.dat fun _ _ _ _ => CEq.refl _ | refine SubE.var2 ?_ ?_ | refine SubE.var1 ?_ | refine SubE.var3 ?_ ?_ ?_ | refine SubE.var4 ?_ ?_ ?_ ?_ | refine SubE.var5 ?_ ?_ ?_ ?_ ?_ | refine SubE.varN ?_ | refine Exists.intro _ (And.intro rfl ?_) | refine And.intro ?_ ?_)
      · rename_i z
        rw [if_neg (of_decide_eq_false z)] at I1
        have I2 : ON (i + 1) a t s2 := I1
        have hol : s2.out.length ≤ 4 := by have := I2.r.2.1.2; have := I2.r.1.2.2.1.2.2; omega
        have S2 := I2.r.small
        have hj2 := S2.j
        have ho2 := S2.o
        have ha2 := I2.a
        have he2 := I2.e
        refine LoopVC.inv (fun m : Nat => m ≤ s2.jobs.length) (fun m => stL [(3, .va 3 0 0), (5, .c (.int .i64 ((a : Nat) : Int))), (6, .c (.int .i64 ((t : Nat) : Int))), (15, .c (.int .i64 ((s2.out.length + wtg (s2.jobs.take m) : Nat) : Int))), (36, .c (slL 7 acE acts)), (37, .c (.int .i64 acts.length)), (38, .c (.int .i64 i)),
            (105, .c (slL 1 jlE s2.jobs)), (106, .c (.int .i64 s2.jobs.length)), (107, .c (.int .i64 m))] [(3, sV s2)]) (fun m => s2.jobs.length - m) 0 (Nat.zero_le _) ?_ ?_
        · clear hQ
          (refine Le.of ?_ ?_ <;> repeat' first | exact trivial | exact CEq.refl _ | exact rfl | exact cI (by push_cast; first | rfl | omega) | exact SubE.dat fun _ _ _ _ => CEq.refl _ | refine SubE.var2 ?_ ?_ | refine SubE.var1 ?_ | refine SubE.var3 ?_ ?_ ?_ | refine SubE.var4 ?_ ?_ ?_ ?_ | refine SubE.var5 ?_ ?_ ?_ ?_ ?_ | refine SubE.varN ?_ | refine Exists.intro _ (And.intro rfl ?_) | refine And.intro ?_ ?_)
        rintro Q2 hQ2 m hm
        repeat' first | (with_reducible first | refine nI1 ?_ | refine nI2 ?_ | refine nI3 ?_ | exact ⟨⟩ | refine Both.mk (fun _ => ?_) fun _ => ?_ | refine Both2.mk (fun _ => ?_) ?_) | ((with_reducible refine Need.mk ?_ ?_; show CEq _ _); exact CEq.refl _) | (with_reducible refine Need.mk ?_ ?_; (first | omega | exact CEq.refl _ | (dsimp only [rng]; omega) | (rw [Int.toNat_natCast]; omega) | (simp only [addN_eq]; omega))) | ((with_reducible fail_if_success first | constructor | show False); conv => whnf)
        · rename_i g
          have g : m < s2.jobs.length := by have := of_decide_eq_true g; omega
          have ht := wtg_take g
          have hjl := S2.jl _ (getD_mem g)
          have hb : wtg (s2.jobs.take m) ≤ 1000000 := wtg_bd I2.r
          repeat' first | (with_reducible first | refine nI1 ?_ | refine nI2 ?_ | refine nI3 ?_ | exact ⟨⟩ | refine Both.mk (fun _ => ?_) fun _ => ?_ | refine Both2.mk (fun _ => ?_) ?_) | ((with_reducible refine Need.mk ?_ ?_; show CEq _ _); exact CEq.refl _) | (with_reducible refine Need.mk ?_ ?_; (first | omega | exact CEq.refl _ | (dsimp only [rng]; omega) | (rw [Int.toNat_natCast]; omega) | (simp only [addN_eq]; omega))) | ((with_reducible fail_if_success first | constructor | show False); conv => whnf)
          refine Need.mk (by rw [Int.toNat_natCast]; dsimp only [rng]; omega) ?_
          repeat' first | (with_reducible first | refine nI1 ?_ | refine nI2 ?_ | refine nI3 ?_ | exact ⟨⟩ | refine Both.mk (fun _ => ?_) fun _ => ?_ | refine Both2.mk (fun _ => ?_) ?_) | ((with_reducible refine Need.mk ?_ ?_; show CEq _ _); exact CEq.refl _) | (with_reducible refine Need.mk ?_ ?_; (first | omega | exact CEq.refl _ | (dsimp only [rng]; omega) | (rw [Int.toNat_natCast]; omega) | (simp only [addN_eq]; omega))) | ((with_reducible fail_if_success first | constructor | show False); conv => whnf)
          refine LoopEnd.mk ⟨m + 1, g, by omega, ?_⟩
          clear hQ hQ2
          (refine Le.of ?_ ?_ <;> repeat' first | exact trivial | exact CEq.refl _ | exact rfl | exact cI (by push_cast; first | rfl | omega) | exact SubE.dat fun _ _ _ _ => CEq.refl _ | refine SubE.var2 ?_ ?_ | refine SubE.var1 ?_ | refine SubE.var3 ?_ ?_ ?_ | refine SubE.var4 ?_ ?_ ?_ ?_ | refine SubE.var5 ?_ ?_ ?_ ?_ ?_ | refine SubE.varN ?_ | refine Exists.intro _ (And.intro rfl ?_) | refine And.intro ?_ ?_)
          exact cI (by rw [ht, Int.toNat_natCast]; push_cast; omega)
        · rename_i g
          have g : m = s2.jobs.length := by have := of_decide_eq_false g; omega
          subst g
          rw [List.take_length]
          refine Out.mk (hQ2 _ _ ?_)
          clear hQ2
          repeat' first | (with_reducible first | refine nI1 ?_ | refine nI2 ?_ | refine nI3 ?_ | exact ⟨⟩ | refine Both.mk (fun _ => ?_) fun _ => ?_ | refine Both2.mk (fun _ => ?_) ?_) | ((with_reducible refine Need.mk ?_ ?_; show CEq _ _); exact CEq.refl _) | (with_reducible refine Need.mk ?_ ?_; (first | omega | exact CEq.refl _ | (dsimp only [rng]; omega) | (rw [Int.toNat_natCast]; omega) | (simp only [addN_eq]; omega))) | ((with_reducible fail_if_success first | constructor | show False); conv => whnf)
          · rename_i g
            exfalso
            clear hQ
            rw [Bool.or_eq_true, Bool.not_eq_true', decide_eq_false_iff_not, decide_eq_true_eq] at g
            omega
          · refine LoopEnd.mk ⟨(s2, a, t, i + 1), ⟨h1, I2⟩, by show acts.length - (i + 1) < acts.length - i; omega, ?_⟩
            clear hQ
            (refine Le.of ?_ ?_ <;> repeat' first | exact trivial | exact CEq.refl _ | exact rfl | exact cI (by push_cast; first | rfl | omega) | exact SubE.dat fun _ _ _ _ => CEq.refl _ | refine SubE.var2 ?_ ?_ | refine SubE.var1 ?_ | refine SubE.var3 ?_ ?_ ?_ | refine SubE.var4 ?_ ?_ ?_ ?_ | refine SubE.var5 ?_ ?_ ?_ ?_ ?_ | refine SubE.varN ?_ | refine Exists.intro _ (And.intro rfl ?_) | refine And.intro ?_ ?_)
    · refine CallVC.mk' (fun _ => pump_ok K s S) (fun _ => .cons ((.many fun j hj => by (rcases (show j = 0 ∨ j = 1 ∨ j = 2 ∨ j = 3 ∨ j = 4 ∨ j = 5 ∨ j = 6 ∨ j = 7 ∨ j = 8 by omega) with rfl | rfl | rfl | rfl | rfl | rfl | rfl | rfl | rfl <;> exact CEq.refl _))) .nil) ?_
      have I2 := I.pump
      generalize pumpS s = s2 at *
      repeat' first | (with_reducible first | refine nI1 ?_ | refine nI2 ?_ | refine nI3 ?_ | exact ⟨⟩ | refine Both.mk (fun _ => ?_) fun _ => ?_ | refine Both2.mk (fun _ => ?_) ?_) | ((with_reducible refine Need.mk ?_ ?_; show CEq _ _); exact CEq.refl _) | (with_reducible refine Need.mk ?_ ?_; (first | omega | exact CEq.refl _ | (dsimp only [rng]; omega) | (rw [Int.toNat_natCast]; omega) | (simp only [addN_eq]; omega))) | ((with_reducible fail_if_success first | constructor | show False); conv => whnf)
      have hol : s2.out.length ≤ 4 := by have := I2.r.2.1.2; have := I2.r.1.2.2.1.2.2; omega
      have S2 := I2.r.small
      have hj2 := S2.j
      have ho2 := S2.o
      have ha2 := I2.a
      have he2 := I2.e
      refine LoopVC.inv (fun m : Nat => m ≤ s2.jobs.length) (fun m => stL [(3, .va 3 0 0), (5, .c (.int .i64 ((a : Nat) : Int))), (6, .c (.int .i64 ((t : Nat) : Int))), (15, .c (.int .i64 ((s2.out.length + wtg (s2.jobs.take m) : Nat) : Int))), (36, .c (slL 7 acE acts)), (37, .c (.int .i64 acts.length)), (38, .c (.int .i64 i)),
          (105, .c (slL 1 jlE s2.jobs)), (106, .c (.int .i64 s2.jobs.length)), (107, .c (.int .i64 m))] [(3, sV s2)]) (fun m => s2.jobs.length - m) 0 (Nat.zero_le _) ?_ ?_
      · clear hQ
        (refine Le.of ?_ ?_ <;> repeat' first | exact trivial | exact CEq.refl _ | exact rfl | exact cI (by push_cast; first | rfl | omega) | exact SubE.dat fun _ _ _ _ => CEq.refl _ | refine SubE.var2 ?_ ?_ | refine SubE.var1 ?_ | refine SubE.var3 ?_ ?_ ?_ | refine SubE.var4 ?_ ?_ ?_ ?_ | refine SubE.var5 ?_ ?_ ?_ ?_ ?_ | refine SubE.varN ?_ | refine Exists.intro _ (And.intro rfl ?_) | refine And.intro ?_ ?_)
      rintro Q2 hQ2 m hm
      repeat' first | (with_reducible first | refine nI1 ?_ | refine nI2 ?_ | refine nI3 ?_ | exact ⟨⟩ | refine Both.mk (fun _ => ?_) fun _ => ?_ | refine Both2.mk (fun _ => ?_) ?_) | ((with_reducible refine Need.mk ?_ ?_; show CEq _ _); exact CEq.refl _) | (with_reducible refine Need.mk ?_ ?_; (first | omega | exact CEq.refl _ | (dsimp only [rng]; omega) | (rw [Int.toNat_natCast]; omega) | (simp only [addN_eq]; omega))) | ((with_reducible fail_if_success first | constructor | show False); conv => whnf)
      · rename_i g
        have g : m < s2.jobs.length := by have := of_decide_eq_true g; omega
        have ht := wtg_take g
        have hjl := S2.jl _ (getD_mem g)
        have hb : wtg (s2.jobs.take m) ≤ 1000000 := wtg_bd I2.r
        repeat' first | (with_reducible first | refine nI1 ?_ | refine nI2 ?_ | refine nI3 ?_ | exact ⟨⟩ | refine Both.mk (fun _ => ?_) fun _ => ?_ | refine Both2.mk (fun _ => ?_) ?_) | ((with_reducible refine Need.mk ?_ ?_; show CEq _ _); exact CEq.refl _) | (with_reducible refine Need.mk ?_ ?_; (first | omega | exact CEq.refl _ | (dsimp only [rng]; omega) | (rw [Int.toNat_natCast]; omega) | (simp only [addN_eq]; omega))) | ((with_reducible fail_if_success first | constructor | show False); conv => whnf)
        refine Need.mk (by rw [Int.toNat_natCast]; dsimp only [rng]; omega) ?_
        repeat' first | (with_reducible first | refine nI1 ?_ | refine nI2 ?_ | refine nI3 ?_ | exact ⟨⟩ | refine Both.mk (fun _ => ?_) fun _ => ?_ | refine Both2.mk (fun _ => ?_) ?_) | ((with_reducible refine Need.mk ?_ ?_; show CEq _ _); exact CEq.refl _) | (with_reducible refine Need.mk ?_ ?_; (first | omega | exact CEq.refl _ | (dsimp only [rng]; omega) | (rw [Int.toNat_natCast]; omega) | (simp only [addN_eq]; omega))) | ((with_reducible fail_if_success first | constructor | show False); conv => whnf)
        refine LoopEnd.mk ⟨m + 1, g, by omega, ?_⟩
        clear hQ hQ2
        (refine Le.of ?_ ?_ <;> repeat' first | exact trivial | exact CEq.refl _ | exact rfl | exact cI (by push_cast; first | rfl | omega) | exact SubE.dat fun _ _ _ _ => CEq.refl _ | refine SubE.var2 ?_ ?_ | refine SubE.var1 ?_ | refine SubE.var3 ?_ ?_ ?_ | refine SubE.var4 ?_ ?_ ?_ ?_ | refine SubE.var5 ?_ ?_ ?_ ?_ ?_ | refine SubE.varN ?_ | refine Exists.intro _ (And.intro rfl ?_) | refine And.intro ?_ ?_)
        exact cI (by rw [ht, Int.toNat_natCast]; push_cast; omega)
      · rename_i g
        have g : m = s2.jobs.length := by have := of_decide_eq_false g; omega
        subst g
        rw [List.take_length]
        refine Out.mk (hQ2 _ _ ?_)
        clear hQ2
        repeat' first | (with_reducible first | refine nI1 ?_ | refine nI2 ?_ | refine nI3 ?_ | exact ⟨⟩ | refine Both.mk (fun _ => ?_) fun _ => ?_ | refine Both2.mk (fun _ => ?_) ?_) | ((with_reducible refine Need.mk ?_ ?_; show CEq _ _); exact CEq.refl _) | (with_reducible refine Need.mk ?_ ?_; (first | omega | exact CEq.refl _ | (dsimp only [rng]; omega) | (rw [Int.toNat_natCast]; omega) | (simp only [addN_eq]; omega))) | ((with_reducible fail_if_success first | constructor | show False); conv => whnf)
        · rename_i g
          exfalso
          clear hQ
          rw [Bool.or_eq_true, Bool.not_eq_true', decide_eq_false_iff_not, decide_eq_true_eq] at g
          omega
        · refine LoopEnd.mk ⟨(s2, a, t, i + 1), ⟨h1, I2⟩, by show acts.length - (i + 1) < acts.length - i; omega, ?_⟩
          clear hQ
          (refine Le.of ?_ ?_ <;> repeat' first | exact trivial | exact CEq.refl _ | exact rfl | exact cI (by push_cast; first | rfl | omega) | exact SubE.dat fun _ _ _ _ => CEq.refl _ | refine SubE.var2 ?_ ?_ | refine SubE.var1 ?_ | refine SubE.var3 ?_ ?_ ?_ | refine SubE.var4 ?_ ?_ ?_ ?_ | refine SubE.var5 ?_ ?_ ?_ ?_ ?_ | refine SubE.varN ?_ | refine Exists.intro _ (And.intro rfl ?_) | refine And.intro ?_ ?_)
    · refine CallVC.mk' (fun _ => done_ok K s (acts.getD i default).n (decide ((acts.getD i default).kind = 3)) S) (fun _ => .cons ((.many fun j hj => by (rcases (show j = 0 ∨ j = 1 ∨ j = 2 ∨ j = 3 ∨ j = 4 ∨ j = 5 ∨ j = 6 ∨ j = 7 ∨ j = 8 by omega) with rfl | rfl | rfl | rfl | rfl | rfl | rfl | rfl | rfl <;> exact CEq.refl _))) (.cons (.one (CEq.refl _)) (.cons (.one (CEq.refl _)) .nil))) ?_
      have I1 := I.done (acts.getD i default).n (decide ((acts.getD i default).kind = 3))
      have f5 := (done_fx (i := (acts.getD i default).n) (f := decide ((acts.getD i default).kind = 3)) I.r).2.2.2.2
      generalize (doneS s (acts.getD i default).n (decide ((acts.getD i default).kind = 3))).1 = s2 at *
      generalize (doneS s (acts.getD i default).n (decide ((acts.getD i default).kind = 3))).2.1 = j2 at *
      generalize (doneS s (acts.getD i default).n (decide ((acts.getD i default).kind = 3))).2.2.1 = e2 at *
      generalize (doneS s (acts.getD i default).n (decide ((acts.getD i default).kind = 3))).2.2.2 = b2 at *
      repeat' first | (with_reducible first | refine nI1 ?_ | refine nI2 ?_ | refine nI3 ?_ | exact ⟨⟩ | refine Both.mk (fun _ => ?_) fun _ => ?_ | refine Both2.mk (fun _ => ?_) ?_) | ((with_reducible refine Need.mk ?_ ?_; show CEq _ _); exact CEq.refl _) | (with_reducible refine Need.mk ?_ ?_; (first | omega | exact CEq.refl _ | (dsimp only [rng]; omega) | (rw [Int.toNat_natCast]; omega) | (simp only [addN_eq]; omega))) | ((with_reducible fail_if_success first | constructor | show False); conv => whnf)
      · rename_i z1 z
        exfalso
        clear hQ
        rw [if_pos z1] at I1
        have f6 := f5 z1
        rw [z1, Bool.true_and, decide_eq_false (show ¬ j2.tries < 1 by omega), decide_eq_false (show ¬ 3 < j2.tries by omega), Bool.false_or, Bool.false_or, Bool.and_eq_true, Bool.not_eq_true', decide_eq_true_eq, decide_eq_false_iff_not] at z
        exact z.2 (f6.2.2 z.1 (by omega))
      · rename_i z1 z
        rw [if_pos z1] at I1
        have I2 : ON (i + 1) a (t + 1) s2 := I1
        have hol : s2.out.length ≤ 4 := by have := I2.r.2.1.2; have := I2.r.1.2.2.1.2.2; omega
        have S2 := I2.r.small
        have hj2 := S2.j
        have ho2 := S2.o
        have ha2 := I2.a
        have he2 := I2.e
        refine LoopVC.inv (fun m : Nat => m ≤ s2.jobs.length) (fun m => stL [(3, .va 3 0 0), (5, .c (.int .i64 ((a : Nat) : Int))), (6, .c (.int .i64 ((t + 1 : Nat) : Int))), (15, .c (.int .i64 ((s2.out.length + wtg (s2.jobs.take m) : Nat) : Int))), (36, .c (slL 7 acE acts)), (37, .c (.int .i64 acts.length)), (38, .c (.int .i64 i)),
            (105, .c (slL 1 jlE s2.jobs)), (106, .c (.int .i64 s2.jobs.length)), (107, .c (.int .i64 m))] [(3, sV s2)]) (fun m => s2.jobs.length - m) 0 (Nat.zero_le _) ?_ ?_
        · clear hQ
          (refine Le.of ?_ ?_ <;> repeat' first | exact trivial | exact CEq.refl _ | exact rfl | exact cI (by push_cast; first | rfl | omega) | exact SubE.dat fun _ _ _ _ => CEq.refl _ | refine SubE.var2 ?_ ?_ | refine SubE.var1 ?_ | refine SubE.var3 ?_ ?_ ?_ | refine SubE.var4 ?_ ?_ ?_ ?_ | refine SubE.var5 ?_ ?_ ?_ ?_ ?_ | refine SubE.varN ?_ | refine Exists.intro _ (And.intro rfl ?_) | refine And.intro ?_ ?_)
        rintro Q2 hQ2 m hm
        repeat' first | (with_reducible first | refine nI1 ?_ | refine nI2 ?_ | refine nI3 ?_ | exact ⟨⟩ | refine Both.mk (fun _ => ?_) fun _ => ?_ | refine Both2.mk (fun _ => ?_) ?_) | ((with_reducible refine Need.mk ?_ ?_; show CEq _ _); exact CEq.refl _) | (with_reducible refine Need.mk ?_ ?_; (first | omega | exact CEq.refl _ | (dsimp only [rng]; omega) | (rw [Int.toNat_natCast]; omega) | (simp only [addN_eq]; omega))) | ((with_reducible fail_if_success first | constructor | show False); conv => whnf)
        · rename_i g
          have g : m < s2.jobs.length := by have := of_decide_eq_true g; omega
          have ht := wtg_take g
          have hjl := S2.jl _ (getD_mem g)
          have hb : wtg (s2.jobs.take m) ≤ 1000000 := wtg_bd I2.r
          repeat' first | (with_reducible first | refine nI1 ?_ | refine nI2 ?_ | refine nI3 ?_ | exact ⟨⟩ | refine Both.mk (fun _ => ?_) fun _ => ?_ | refine Both2.mk (fun _ => ?_) ?_) | ((with_reducible refine Need.mk ?_ ?_; show CEq _ _); exact CEq.refl _) | (with_reducible refine Need.mk ?_ ?_; (first | omega | exact CEq.refl _ | (dsimp only [rng]; omega) | (rw [Int.toNat_natCast]; omega) | (simp only [addN_eq]; omega))) | ((with_reducible fail_if_success first | constructor | show False); conv => whnf)
          refine Need.mk (by rw [Int.toNat_natCast]; dsimp only [rng]; omega) ?_
          repeat' first | (with_reducible first | refine nI1 ?_ | refine nI2 ?_ | refine nI3 ?_ | exact ⟨⟩ | refine Both.mk (fun _ => ?_) fun _ => ?_ | refine Both2.mk (fun _ => ?_) ?_) | ((with_reducible refine Need.mk ?_ ?_; show CEq _ _); exact CEq.refl _) | (with_reducible refine Need.mk ?_ ?_; (first | omega | exact CEq.refl _ | (dsimp only [rng]; omega) | (rw [Int.toNat_natCast]; omega) | (simp only [addN_eq]; omega))) | ((with_reducible fail_if_success first | constructor | show False); conv => whnf)
          refine LoopEnd.mk ⟨m + 1, g, by omega, ?_⟩
          clear hQ hQ2
          (refine Le.of ?_ ?_ <;> repeat' first | exact trivial | exact CEq.refl _ | exact rfl | exact cI (by push_cast; first | rfl | omega) | exact SubE.dat fun _ _ _ _ => CEq.refl _ | refine SubE.var2 ?_ ?_ | refine SubE.var1 ?_ | refine SubE.var3 ?_ ?_ ?_ | refine SubE.var4 ?_ ?_ ?_ ?_ | refine SubE.var5 ?_ ?_ ?_ ?_ ?_ | refine SubE.varN ?_ | refine Exists.intro _ (And.intro rfl ?_) | refine And.intro ?_ ?_)
          exact cI (by rw [ht, Int.toNat_natCast]; push_cast; omega)
        · rename_i g
          have g : m = s2.jobs.length := by have := of_decide_eq_false g; omega
          subst g
          rw [List.take_length]
          refine Out.mk (hQ2 _ _ ?_)
          clear hQ2
          repeat' first | (with_reducible first | refine nI1 ?_ | refine nI2 ?_ | refine nI3 ?_ | exact ⟨⟩ | refine Both.mk (fun _ => ?_) fun _ => ?_ | refine Both2.mk (fun _ => ?_) ?_) | ((with_reducible refine Need.mk ?_ ?_; show CEq _ _); exact CEq.refl _) | (with_reducible refine Need.mk ?_ ?_; (first | omega | exact CEq.refl _ | (dsimp only [rng]; omega) | (rw [Int.toNat_natCast]; omega) | (simp only [addN_eq]; omega))) | ((with_reducible fail_if_success first | constructor | show False); conv => whnf)
          · rename_i g
            exfalso
            clear hQ
            rw [Bool.or_eq_true, Bool.not_eq_true', decide_eq_false_iff_not, decide_eq_true_eq] at g
            omega
          · refine LoopEnd.mk ⟨(s2, a, t + 1, i + 1), ⟨h1, I2⟩, by show acts.length - (i + 1) < acts.length - i; omega, ?_⟩
            clear hQ
            (refine Le.of ?_ ?_ <;> repeat' first | exact trivial | exact CEq.refl _ | exact rfl | exact cI (by push_cast; first | rfl | omega) | exact SubE.dat fun _ _ _ _ => CEq.refl _ | refine SubE.var2 ?_ ?_ | refine SubE.var1 ?_ | refine SubE.var3 ?_ ?_ ?_ | refine SubE.var4 ?_ ?_ ?_ ?_ | refine SubE.var5 ?_ ?_ ?_ ?_ ?_ | refine SubE.varN ?_ | refine Exists.intro _ (And.intro rfl ?_) | refine And.intro ?_ ?_)
      · rename_i z1 z
        rw [z1] at z
        cases z
      · rename_i z1 z
        rw [if_neg (by rw [z1]; exact Bool.false_ne_true)] at I1
        have I2 : ON (i + 1) a t s2 := I1
        have hol : s2.out.length ≤ 4 := by have := I2.r.2.1.2; have := I2.r.1.2.2.1.2.2; omega
        have S2 := I2.r.small
        have hj2 := S2.j
        have ho2 := S2.o
        have ha2 := I2.a
        have he2 := I2.e
        refine LoopVC.inv (fun m : Nat => m ≤ s2.jobs.length) (fun m => stL [(3, .va 3 0 0), (5, .c (.int .i64 ((a : Nat) : Int))), (6, .c (.int .i64 ((t : Nat) : Int))), (15, .c (.int .i64 ((s2.out.length + wtg (s2.jobs.take m) : Nat) : Int))), (36, .c (slL 7 acE acts)), (37, .c (.int .i64 acts.length)), (38, .c (.int .i64 i)),
            (105, .c (slL 1 jlE s2.jobs)), (106, .c (.int .i64 s2.jobs.length)), (107, .c (.int .i64 m))] [(3, sV s2)]) (fun m => s2.jobs.length - m) 0 (Nat.zero_le _) ?_ ?_
        · clear hQ
          (refine Le.of ?_ ?_ <;> repeat' first | exact trivial | exact CEq.refl _ | exact rfl | exact cI (by push_cast; first | rfl | omega) | exact SubE.dat fun _ _ _ _ => CEq.refl _ | refine SubE.var2 ?_ ?_ | refine SubE.var1 ?_ | refine SubE.var3 ?_ ?_ ?_ | refine SubE.var4 ?_ ?_ ?_ ?_ | refine SubE.var5 ?_ ?_ ?_ ?_ ?_ | refine SubE.varN ?_ | refine Exists.intro _ (And.intro rfl ?_) | refine And.intro ?_ ?_)
        rintro Q2 hQ2 m hm
        repeat' first | (with_reducible first | refine nI1 ?_ | refine nI2 ?_ | refine nI3 ?_ | exact ⟨⟩ | refine Both.mk (fun _ => ?_) fun _ => ?_ | refine Both2.mk (fun _ => ?_) ?_) | ((with_reducible refine Need.mk ?_ ?_; show CEq _ _); exact CEq.refl _) | (with_reducible refine Need.mk ?_ ?_; (first | omega | exact CEq.refl _ | (dsimp only [rng]; omega) | (rw [Int.toNat_natCast]; omega) | (simp only [addN_eq]; omega))) | ((with_reducible fail_if_success first | constructor | show False); conv => whnf)
        · rename_i g
          have g : m < s2.jobs.length := by have := of_decide_eq_true g; omega
          have ht := wtg_take g
          have hjl := S2.jl _ (getD_mem g)
          have hb : wtg (s2.jobs.take m) ≤ 1000000 := wtg_bd I2.r
          repeat' first | (with_reducible first | refine nI1 ?_ | refine nI2 ?_ | refine nI3 ?_ | exact ⟨⟩ | refine Both.mk (fun _ => ?_) fun _ => ?_ | refine Both2.mk (fun _ => ?_) ?_) | ((with_reducible refine Need.mk ?_ ?_; show CEq _ _); exact CEq.refl _) | (with_reducible refine Need.mk ?_ ?_; (first | omega | exact CEq.refl _ | (dsimp only [rng]; omega) | (rw [Int.toNat_natCast]; omega) | (simp only [addN_eq]; omega))) | ((with_reducible fail_if_success first | constructor | show False); conv => whnf)
          refine Need.mk (by rw [Int.toNat_natCast]; dsimp only [rng]; omega) ?_
          repeat' first | (with_reducible first | refine nI1 ?_ | refine nI2 ?_ | refine nI3 ?_ | exact ⟨⟩ | refine Both.mk (fun _ => ?_) fun _ => ?_ | refine Both2.mk (fun _ => ?_) ?_) | ((with_reducible refine Need.mk ?_ ?_; show CEq _ _); exact CEq.refl _) | (with_reducible refine Need.mk ?_ ?_; (first | omega | exact CEq.refl _ | (dsimp only [rng]; omega) | (rw [Int.toNat_natCast]; omega) | (simp only [addN_eq]; omega))) | ((with_reducible fail_if_success first | constructor | show False); conv => whnf)
          refine LoopEnd.mk ⟨m + 1, g, by omega, ?_⟩
          clear hQ hQ2
          (refine Le.of ?_ ?_ <;> repeat' first | exact trivial | exact CEq.refl _ | exact rfl | exact cI (by push_cast; first | rfl | omega) | exact SubE.dat fun _ _ _ _ => CEq.refl _ | refine SubE.var2 ?_ ?_ | refine SubE.var1 ?_ | refine SubE.var3 ?_ ?_ ?_ | refine SubE.var4 ?_ ?_ ?_ ?_ | refine SubE.var5 ?_ ?_ ?_ ?_ ?_ | refine SubE.varN ?_ | refine Exists.intro _ (And.intro rfl ?_) | refine And.intro ?_ ?_)
          exact cI (by rw [ht, Int.toNat_natCast]; push_cast; omega)
        · rename_i g
          have g : m = s2.jobs.length := by have := of_decide_eq_false g; omega
          subst g
          rw [List.take_length]
          refine Out.mk (hQ2 _ _ ?_)
          clear hQ2
          repeat' first | (with_reducible first | refine nI1 ?_ | refine nI2 ?_ | refine nI3 ?_ | exact ⟨⟩ | refine Both.mk (fun _ => ?_) fun _ => ?_ | refine Both2.mk (fun _ => ?_) ?_) | ((with_reducible refine Need.mk ?_ ?_; show CEq _ _); exact CEq.refl _) | (with_reducible refine Need.mk ?_ ?_; (first | omega | exact CEq.refl _ | (dsimp only [rng]; omega) | (rw [Int.toNat_natCast]; omega) | (simp only [addN_eq]; omega))) | ((with_reducible fail_if_success first | constructor | show False); conv => whnf)
          · rename_i g
            exfalso
            clear hQ
            rw [Bool.or_eq_true, Bool.not_eq_true', decide_eq_false_iff_not, decide_eq_true_eq] at g
            omega
          · refine LoopEnd.mk ⟨(s2, a, t, i + 1), ⟨h1, I2⟩, by show acts.length - (i + 1) < acts.length - i; omega, ?_⟩
            clear hQ
            (refine Le.of ?_ ?_ <;> repeat' first | exact trivial | exact CEq.refl _ | exact rfl | exact cI (by push_cast; first | rfl | omega) | exact SubE.dat fun _ _ _ _ => CEq.refl _ | refine SubE.var2 ?_ ?_ | refine SubE.var1 ?_ | refine SubE.var3 ?_ ?_ ?_ | refine SubE.var4 ?_ ?_ ?_ ?_ | refine SubE.var5 ?_ ?_ ?_ ?_ ?_ | refine SubE.varN ?_ | refine Exists.intro _ (And.intro rfl ?_) | refine And.intro ?_ ?_)
    · rename_i z1 z2 z3 z4
      exact absurd (z3.symm.trans z4) (by decide)
    · refine CallVC.mk' (fun _ => done_ok K s (acts.getD i default).n (decide ((acts.getD i default).kind = 3)) S) (fun _ => .cons ((.many fun j hj => by (rcases (show j = 0 ∨ j = 1 ∨ j = 2 ∨ j = 3 ∨ j = 4 ∨ j = 5 ∨ j = 6 ∨ j = 7 ∨ j = 8 by omega) with rfl | rfl | rfl | rfl | rfl | rfl | rfl | rfl | rfl <;> exact CEq.refl _))) (.cons (.one (CEq.refl _)) (.cons (.one (CEq.refl _)) .nil))) ?_
      have I1 := I.done (acts.getD i default).n (decide ((acts.getD i default).kind = 3))
      have f5 := (done_fx (i := (acts.getD i default).n) (f := decide ((acts.getD i default).kind = 3)) I.r).2.2.2.2
      generalize (doneS s (acts.getD i default).n (decide ((acts.getD i default).kind = 3))).1 = s2 at *
      generalize (doneS s (acts.getD i default).n (decide ((acts.getD i default).kind = 3))).2.1 = j2 at *
      generalize (doneS s (acts.getD i default).n (decide ((acts.getD i default).kind = 3))).2.2.1 = e2 at *
      generalize (doneS s (acts.getD i default).n (decide ((acts.getD i default).kind = 3))).2.2.2 = b2 at *
      repeat' first | (with_reducible first | refine nI1 ?_ | refine nI2 ?_ | refine nI3 ?_ | exact ⟨⟩ | refine Both.mk (fun _ => ?_) fun _ => ?_ | refine Both2.mk (fun _ => ?_) ?_) | ((with_reducible refine Need.mk ?_ ?_; show CEq _ _); exact CEq.refl _) | (with_reducible refine Need.mk ?_ ?_; (first | omega | exact CEq.refl _ | (dsimp only [rng]; omega) | (rw [Int.toNat_natCast]; omega) | (simp only [addN_eq]; omega))) | ((with_reducible fail_if_success first | constructor | show False); conv => whnf)
      · rename_i z1 z
        exfalso
        clear hQ
        rw [if_pos z1] at I1
        have f6 := f5 z1
        rw [z1, Bool.true_and, decide_eq_false (show ¬ j2.tries < 1 by omega), decide_eq_false (show ¬ 3 < j2.tries by omega), Bool.false_or, Bool.false_or, Bool.and_eq_true, Bool.not_eq_true', decide_eq_true_eq, decide_eq_false_iff_not] at z
        exact z.2 (f6.2.2 z.1 (by omega))
      · rename_i z1 z
        rw [if_pos z1] at I1
        have I2 : ON (i + 1) a (t + 1) s2 := I1
        have hol : s2.out.length ≤ 4 := by have := I2.r.2.1.2; have := I2.r.1.2.2.1.2.2; omega
        have S2 := I2.r.small
        have hj2 := S2.j
        have ho2 := S2.o
        have ha2 := I2.a
        have he2 := I2.e
        refine LoopVC.inv (fun m : Nat => m ≤ s2.jobs.length) (fun m => stL [(3, .va 3 0 0), (5, .c (.int .i64 ((a : Nat) : Int))), (6, .c (.int .i64 ((t + 1 : Nat) : Int))), (15, .c (.int .i64 ((s2.out.length + wtg (s2.jobs.take m) : Nat) : Int))), (36, .c (slL 7 acE acts)), (37, .c (.int .i64 acts.length)), (38, .c (.int .i64 i)),
            (105, .c (slL 1 jlE s2.jobs)), (106, .c (.int .i64 s2.jobs.length)), (107, .c (.int .i64 m))] [(3, sV s2)]) (fun m => s2.jobs.length - m) 0 (Nat.zero_le _) ?_ ?_
        · clear hQ
          (refine Le.of ?_ ?_ <;> repeat' first | exact trivial | exact CEq.refl _ | exact rfl | exact cI (by push_cast; first | rfl | omega) | exact SubE.dat fun _ _ _ _ => CEq.refl _ | refine SubE.var2 ?_ ?_ | refine SubE.var1 ?_ | refine SubE.var3 ?_ ?_ ?_ | refine SubE.var4 ?_ ?_ ?_ ?_ | refine SubE.var5 ?_ ?_ ?_ ?_ ?_ | refine SubE.varN ?_ | refine Exists.intro _ (And.intro rfl ?_) | refine And.intro ?_ ?_)
        rintro Q2 hQ2 m hm
        repeat' first | (with_reducible first | refine nI1 ?_ | refine nI2 ?_ | refine nI3 ?_ | exact ⟨⟩ | refine Both.mk (fun _ => ?_) fun _ => ?_ | refine Both2.mk (fun _ => ?_) ?_) | ((with_reducible refine Need.mk ?_ ?_; show CEq _ _); exact CEq.refl _) | (with_reducible refine Need.mk ?_ ?_; (first | omega | exact CEq.refl _ | (dsimp only [rng]; omega) | (rw [Int.toNat_natCast]; omega) | (simp only [addN_eq]; omega))) | ((with_reducible fail_if_success first | constructor | show False); conv => whnf)
        · rename_i g
          have g : m < s2.jobs.length := by have := of_decide_eq_true g; omega
          have ht := wtg_take g
          have hjl := S2.jl _ (getD_mem g)
          have hb : wtg (s2.jobs.take m) ≤ 1000000 := wtg_bd I2.r
          repeat' first | (with_reducible first | refine nI1 ?_ | refine nI2 ?_ | refine nI3 ?_ | exact ⟨⟩ | refine Both.mk (fun _ => ?_) fun _ => ?_ | refine Both2.mk (fun _ => ?_) ?_) | ((with_reducible refine Need.mk ?_ ?_; show CEq _ _); exact CEq.refl _) | (with_reducible refine Need.mk ?_ ?_; (first | omega | exact CEq.refl _ | (dsimp only [rng]; omega) | (rw [Int.toNat_natCast]; omega) | (simp only [addN_eq]; omega))) | ((with_reducible fail_if_success first | constructor | show False); conv => whnf)
          refine Need.mk (by rw [Int.toNat_natCast]; dsimp only [rng]; omega) ?_
          repeat' first | (with_reducible first | refine nI1 ?_ | refine nI2 ?_ | refine nI3 ?_ | exact ⟨⟩ | refine Both.mk (fun _ => ?_) fun _ => ?_ | refine Both2.mk (fun _ => ?_) ?_) | ((with_reducible refine Need.mk ?_ ?_; show CEq _ _); exact CEq.refl _) | (with_reducible refine Need.mk ?_ ?_; (first | omega | exact CEq.refl _ | (dsimp only [rng]; omega) | (rw [Int.toNat_natCast]; omega) | (simp only [addN_eq]; omega))) | ((with_reducible fail_if_success first | constructor | show False); conv => whnf)
          refine LoopEnd.mk ⟨m + 1, g, by omega, ?_⟩
          clear hQ hQ2
          (refine Le.of ?_ ?_ <;> repeat' first | exact trivial | exact CEq.refl _ | exact rfl | exact cI (by push_cast; first | rfl | omega) | exact SubE.dat fun _ _ _ _ => CEq.refl _ | refine SubE.var2 ?_ ?_ | refine SubE.var1 ?_ | refine SubE.var3 ?_ ?_ ?_ | refine SubE.var4 ?_ ?_ ?_ ?_ | refine SubE.var5 ?_ ?_ ?_ ?_ ?_ | refine SubE.varN ?_ | refine Exists.intro _ (And.intro rfl ?_) | refine And.intro ?_ ?_)
          exact cI (by rw [ht, Int.toNat_natCast]; push_cast; omega)
        · rename_i g
          have g : m = s2.jobs.length := by have := of_decide_eq_false g; omega
          subst g
          rw [List.take_length]
          refine Out.mk (hQ2 _ _ ?_)
          clear hQ2
          repeat' first | (with_reducible first | refine nI1 ?_ | refine nI2 ?_ | refine nI3 ?_ | exact ⟨⟩ | refine Both.mk (fun _ => ?_) fun _ => ?_ | refine Both2.mk (fun _ => ?_) ?_) | ((with_reducible refine Need.mk ?_ ?_; show CEq _ _); exact CEq.refl _) | (with_reducible refine Need.mk ?_ ?_; (first | omega | exact CEq.refl _ | (dsimp only [rng]; omega) | (rw [Int.toNat_natCast]; omega) | (simp only [addN_eq]; omega))) | ((with_reducible fail_if_success first | constructor | show False); conv => whnf)
          · rename_i g
            exfalso
            clear hQ
            rw [Bool.or_eq_true, Bool.not_eq_true', decide_eq_false_iff_not, decide_eq_true_eq] at g
            omega
          · refine LoopEnd.mk ⟨(s2, a, t + 1, i + 1), ⟨h1, I2⟩, by show acts.length - (i + 1) < acts.length - i; omega, ?_⟩
            clear hQ
            (refine Le.of ?_ ?_ <;> repeat' first | exact trivial | exact CEq.refl _ | exact rfl | exact cI (by push_cast; first | rfl | omega) | exact SubE.dat fun _ _ _ _ => CEq.refl _ | refine SubE.var2 ?_ ?_ | refine SubE.var1 ?_ | refine SubE.var3 ?_ ?_ ?_ | refine SubE.var4 ?_ ?_ ?_ ?_ | refine SubE.var5 ?_ ?_ ?_ ?_ ?_ | refine SubE.varN ?_ | refine Exists.intro _ (And.intro rfl ?_) | refine And.intro ?_ ?_)
      · rename_i z1 z
        rw [z1] at z
        cases z
      · rename_i z1 z
        rw [if_neg (by rw [z1]; exact Bool.false_ne_true)] at I1
        have I2 : ON (i + 1) a t s2 := I1
        have hol : s2.out.length ≤ 4 := by have := I2.r.2.1.2; have := I2.r.1.2.2.1.2.2; omega
        have S2 := I2.r.small
        have hj2 := S2.j
        have ho2 := S2.o
        have ha2 := I2.a
        have he2 := I2.e
        refine LoopVC.inv (fun m : Nat => m ≤ s2.jobs.length) (fun m => stL [(3, .va 3 0 0), (5, .c (.int .i64 ((a : Nat) : Int))), (6, .c (.int .i64 ((t : Nat) : Int))), (15, .c (.int .i64 ((s2.out.length + wtg (s2.jobs.take m) : Nat) : Int))), (36, .c (slL 7 acE acts)), (37, .c (.int .i64 acts.length)), (38, .c (.int .i64 i)),
            (105, .c (slL 1 jlE s2.jobs)), (106, .c (.int .i64 s2.jobs.length)), (107, .c (.int .i64 m))] [(3, sV s2)]) (fun m => s2.jobs.length - m) 0 (Nat.zero_le _) ?_ ?_
        · clear hQ
          (refine Le.of ?_ ?_ <;> repeat' first | exact trivial | exact CEq.refl _ | exact rfl | exact cI (by push_cast; first | rfl | omega) | exact SubE.dat fun _ _ _ _ => CEq.refl _ | refine SubE.var2 ?_ ?_ | refine SubE.var1 ?_ | refine SubE.var3 ?_ ?_ ?_ | refine SubE.var4 ?_ ?_ ?_ ?_ | refine SubE.var5 ?_ ?_ ?_ ?_ ?_ | refine SubE.varN ?_ | refine Exists.intro _ (And.intro rfl ?_) | refine And.intro ?_ ?_)
        rintro Q2 hQ2 m hm
        repeat' first | (with_reducible first | refine nI1 ?_ | refine nI2 ?_ | refine nI3 ?_ | exact ⟨⟩ | refine Both.mk (fun _ => ?_) fun _ => ?_ | refine Both2.mk (fun _ => ?_) ?_) | ((with_reducible refine Need.mk ?_ ?_; show CEq _ _); exact CEq.refl _) | (with_reducible refine Need.mk ?_ ?_; (first | omega | exact CEq.refl _ | (dsimp only [rng]; omega) | (rw [Int.toNat_natCast]; omega) | (simp only [addN_eq]; omega))) | ((with_reducible fail_if_success first | constructor | show False); conv => whnf)
        · rename_i g
          have g : m < s2.jobs.length := by have := of_decide_eq_true g; omega
          have ht := wtg_take g
          have hjl := S2.jl _ (getD_mem g)
          have hb : wtg (s2.jobs.take m) ≤ 1000000 := wtg_bd I2.r
          repeat' first | (with_reducible first | refine nI1 ?_ | refine nI2 ?_ | refine nI3 ?_ | exact ⟨⟩ | refine Both.mk (fun _ => ?_) fun _ => ?_ | refine Both2.mk (fun _ => ?_) ?_) | ((with_reducible refine Need.mk ?_ ?_; show CEq _ _); exact CEq.refl _) | (with_reducible refine Need.mk ?_ ?_; (first | omega | exact CEq.refl _ | (dsimp only [rng]; omega) | (rw [Int.toNat_natCast]; omega) | (simp only [addN_eq]; omega))) | ((with_reducible fail_if_success first | constructor | show False); conv => whnf)
          refine Need.mk (by rw [Int.toNat_natCast]; dsimp only [rng]; omega) ?_
          repeat' first | (with_reducible first | refine nI1 ?_ | refine nI2 ?_ | refine nI3 ?_ | exact ⟨⟩ | refine Both.mk (fun _ => ?_) fun _ => ?_ | refine Both2.mk (fun _ => ?_) ?_) | ((with_reducible refine Need.mk ?_ ?_; show CEq _ _); exact CEq.refl _) | (with_reducible refine Need.mk ?_ ?_; (first | omega | exact CEq.refl _ | (dsimp only [rng]; omega) | (rw [Int.toNat_natCast]; omega) | (simp only [addN_eq]; omega))) | ((with_reducible fail_if_success first | constructor | show False); conv => whnf)
          refine LoopEnd.mk ⟨m + 1, g, by omega, ?_⟩
          clear hQ hQ2
          (refine Le.of ?_ ?_ <;> repeat' first | exact trivial | exact CEq.refl _ | exact rfl | exact cI (by push_cast; first | rfl | omega) | exact SubE.dat fun _ _ _ _ => CEq.refl _ | refine SubE.var2 ?_ ?_ | refine SubE.var1 ?_ | refine SubE.var3 ?_ ?_ ?_ | refine SubE.var4 ?_ ?_ ?_ ?_ | refine SubE.var5 ?_ ?_ ?_ ?_ ?_ | refine SubE.varN ?_ | refine Exists.intro _ (And.intro rfl ?_) | refine And.intro ?_ ?_)
          exact cI (by rw [ht, Int.toNat_natCast]; push_cast; omega)
        · rename_i g
          have g : m = s2.jobs.length := by have := of_decide_eq_false g; omega
          subst g
          rw [List.take_length]
          refine Out.mk (hQ2 _ _ ?_)
          clear hQ2
          repeat' first | (with_reducible first | refine nI1 ?_ | refine nI2 ?_ | refine nI3 ?_ | exact ⟨⟩ | refine Both.mk (fun _ => ?_) fun _ => ?_ | refine Both2.mk (fun _ => ?_) ?_) | ((with_reducible refine Need.mk ?_ ?_; show CEq _ _); exact CEq.refl _) | (with_reducible refine Need.mk ?_ ?_; (first | omega | exact CEq.refl _ | (dsimp only [rng]; omega) | (rw [Int.toNat_natCast]; omega) | (simp only [addN_eq]; omega))) | ((with_reducible fail_if_success first | constructor | show False); conv => whnf)
          · rename_i g
            exfalso
            clear hQ
            rw [Bool.or_eq_true, Bool.not_eq_true', decide_eq_false_iff_not, decide_eq_true_eq] at g
            omega
          · refine LoopEnd.mk ⟨(s2, a, t, i + 1), ⟨h1, I2⟩, by show acts.length - (i + 1) < acts.length - i; omega, ?_⟩
            clear hQ
            (refine Le.of ?_ ?_ <;> repeat' first | exact trivial | exact CEq.refl _ | exact rfl | exact cI (by push_cast; first | rfl | omega) | exact SubE.dat fun _ _ _ _ => CEq.refl _ | refine SubE.var2 ?_ ?_ | refine SubE.var1 ?_ | refine SubE.var3 ?_ ?_ ?_ | refine SubE.var4 ?_ ?_ ?_ ?_ | refine SubE.var5 ?_ ?_ ?_ ?_ ?_ | refine SubE.varN ?_ | refine Exists.intro _ (And.intro rfl ?_) | refine And.intro ?_ ?_)
    · have I2 := I.skip
      generalize hss : s = s2 at *
      have hol : s2.out.length ≤ 4 := by have := I2.r.2.1.2; have := I2.r.1.2.2.1.2.2; omega
      have S2 := I2.r.small
      have hj2 := S2.j
      have ho2 := S2.o
      have ha2 := I2.a
      have he2 := I2.e
      refine LoopVC.inv (fun m : Nat => m ≤ s2.jobs.length) (fun m => stL [(3, .va 3 0 0), (5, .c (.int .i64 ((a : Nat) : Int))), (6, .c (.int .i64 ((t : Nat) : Int))), (15, .c (.int .i64 ((s2.out.length + wtg (s2.jobs.take m) : Nat) : Int))), (36, .c (slL 7 acE acts)), (37, .c (.int .i64 acts.length)), (38, .c (.int .i64 i)),
          (105, .c (slL 1 jlE s2.jobs)), (106, .c (.int .i64 s2.jobs.length)), (107, .c (.int .i64 m))] [(3, sV s2)]) (fun m => s2.jobs.length - m) 0 (Nat.zero_le _) ?_ ?_
      · clear hQ
        (refine Le.of ?_ ?_ <;> repeat' first | exact trivial | exact CEq.refl _ | exact rfl | exact cI (by push_cast; first | rfl | omega) | exact SubE.dat fun _ _ _ _ => CEq.refl _ | refine SubE.var2 ?_ ?_ | refine SubE.var1 ?_ | refine SubE.var3 ?_ ?_ ?_ | refine SubE.var4 ?_ ?_ ?_ ?_ | refine SubE.var5 ?_ ?_ ?_ ?_ ?_ | refine SubE.varN ?_ | refine Exists.intro _ (And.intro rfl ?_) | refine And.intro ?_ ?_)
      rintro Q2 hQ2 m hm
      repeat' first | (with_reducible first | refine nI1 ?_ | refine nI2 ?_ | refine nI3 ?_ | exact ⟨⟩ | refine Both.mk (fun _ => ?_) fun _ => ?_ | refine Both2.mk (fun _ => ?_) ?_) | ((with_reducible refine Need.mk ?_ ?_; show CEq _ _); exact CEq.refl _) | (with_reducible refine Need.mk ?_ ?_; (first | omega | exact CEq.refl _ | (dsimp only [rng]; omega) | (rw [Int.toNat_natCast]; omega) | (simp only [addN_eq]; omega))) | ((with_reducible fail_if_success first | constructor | show False); conv => whnf)
      · rename_i g
        have g : m < s2.jobs.length := by have := of_decide_eq_true g; omega
        have ht := wtg_take g
        have hjl := S2.jl _ (getD_mem g)
        have hb : wtg (s2.jobs.take m) ≤ 1000000 := wtg_bd I2.r
        repeat' first | (with_reducible first | refine nI1 ?_ | refine nI2 ?_ | refine nI3 ?_ | exact ⟨⟩ | refine Both.mk (fun _ => ?_) fun _ => ?_ | refine Both2.mk (fun _ => ?_) ?_) | ((with_reducible refine Need.mk ?_ ?_; show CEq _ _); exact CEq.refl _) | (with_reducible refine Need.mk ?_ ?_; (first | omega | exact CEq.refl _ | (dsimp only [rng]; omega) | (rw [Int.toNat_natCast]; omega) | (simp only [addN_eq]; omega))) | ((with_reducible fail_if_success first | constructor | show False); conv => whnf)
        refine Need.mk (by rw [Int.toNat_natCast]; dsimp only [rng]; omega) ?_
        repeat' first | (with_reducible first | refine nI1 ?_ | refine nI2 ?_ | refine nI3 ?_ | exact ⟨⟩ | refine Both.mk (fun _ => ?_) fun _ => ?_ | refine Both2.mk (fun _ => ?_) ?_) | ((with_reducible refine Need.mk ?_ ?_; show CEq _ _); exact CEq.refl _) | (with_reducible refine Need.mk ?_ ?_; (first | omega | exact CEq.refl _ | (dsimp only [rng]; omega) | (rw [Int.toNat_natCast]; omega) | (simp only [addN_eq]; omega))) | ((with_reducible fail_if_success first | constructor | show False); conv => whnf)
        refine LoopEnd.mk ⟨m + 1, g, by omega, ?_⟩
        clear hQ hQ2
        (refine Le.of ?_ ?_ <;> repeat' first | exact trivial | exact CEq.refl _ | exact rfl | exact cI (by push_cast; first | rfl | omega) | exact SubE.dat fun _ _ _ _ => CEq.refl _ | refine SubE.var2 ?_ ?_ | refine SubE.var1 ?_ | refine SubE.var3 ?_ ?_ ?_ | refine SubE.var4 ?_ ?_ ?_ ?_ | refine SubE.var5 ?_ ?_ ?_ ?_ ?_ | refine SubE.varN ?_ | refine Exists.intro _ (And.intro rfl ?_) | refine And.intro ?_ ?_)
        exact cI (by rw [ht, Int.toNat_natCast]; push_cast; omega)
      · rename_i g
        have g : m = s2.jobs.length := by have := of_decide_eq_false g; omega
        subst g
        rw [List.take_length]
        refine Out.mk (hQ2 _ _ ?_)
        clear hQ2
        repeat' first | (with_reducible first | refine nI1 ?_ | refine nI2 ?_ | refine nI3 ?_ | exact ⟨⟩ | refine Both.mk (fun _ => ?_) fun _ => ?_ | refine Both2.mk (fun _ => ?_) ?_) | ((with_reducible refine Need.mk ?_ ?_; show CEq _ _); exact CEq.refl _) | (with_reducible refine Need.mk ?_ ?_; (first | omega | exact CEq.refl _ | (dsimp only [rng]; omega) | (rw [Int.toNat_natCast]; omega) | (simp only [addN_eq]; omega))) | ((with_reducible fail_if_success first | constructor | show False); conv => whnf)
        · rename_i g
          exfalso
          clear hQ
          rw [Bool.or_eq_true, Bool.not_eq_true', decide_eq_false_iff_not, decide_eq_true_eq] at g
          omega
        · refine LoopEnd.mk ⟨(s2, a, t, i + 1), ⟨h1, I2⟩, by show acts.length - (i + 1) < acts.length - i; omega, ?_⟩
          clear hQ
          (refine Le.of ?_ ?_ <;> repeat' first | exact trivial | exact CEq.refl _ | exact rfl | exact cI (by push_cast; first | rfl | omega) | exact SubE.dat fun _ _ _ _ => CEq.refl _ | refine SubE.var2 ?_ ?_ | refine SubE.var1 ?_ | refine SubE.var3 ?_ ?_ ?_ | refine SubE.var4 ?_ ?_ ?_ ?_ | refine SubE.var5 ?_ ?_ ?_ ?_ ?_ | refine SubE.varN ?_ | refine Exists.intro _ (And.intro rfl ?_) | refine And.intro ?_ ?_)
  · rename_i g
    refine Out.mk (hQ _ _ ?_)
    clear hQ
    repeat' first | (with_reducible first | refine nI1 ?_ | refine nI2 ?_ | refine nI3 ?_ | exact ⟨⟩ | refine Both.mk (fun _ => ?_) fun _ => ?_ | refine Both2.mk (fun _ => ?_) ?_) | ((with_reducible refine Need.mk ?_ ?_; show CEq _ _); exact CEq.refl _) | (with_reducible refine Need.mk ?_ ?_; (first | omega | exact CEq.refl _ | (dsimp only [rng]; omega) | (rw [Int.toNat_natCast]; omega) | (simp only [addN_eq]; omega))) | ((with_reducible fail_if_success first | constructor | show False); conv => whnf)
    refine CallVC.mk' (fun _ => awake_ok L) (fun _ => .nil) ?_
    repeat' first | (with_reducible first | refine nI1 ?_ | refine nI2 ?_ | refine nI3 ?_ | exact ⟨⟩ | refine Both.mk (fun _ => ?_) fun _ => ?_ | refine Both2.mk (fun _ => ?_) ?_) | ((with_reducible refine Need.mk ?_ ?_; show CEq _ _); exact CEq.refl _) | (with_reducible refine Need.mk ?_ ?_; (first | omega | exact CEq.refl _ | (dsimp only [rng]; omega) | (rw [Int.toNat_natCast]; omega) | (simp only [addN_eq]; omega))) | ((with_reducible fail_if_success first | constructor | show False); conv => whnf)
end
end Lk.S06
namespace Lk.S06
open Go Lk Lk.C Lk.S03 Lk.S04
theorem ask_there {s : Sd} {x : Jb} {k : Nat} (h : rightS s) (hk : x.who = k) (hl : k < s.jobs.length) (ht : x.tries = 0) (hj : jobOk x) :
    askS s x = if 200 ≤ (s.jobs.getD k default).length then (s, 7) else (⟨S05.pushX s.lanes k (cost x.kind), s.jobs.set k (s.jobs.getD k default ++ [x]), s.dev, s.out⟩, 0) := by
  have hn : ¬ askNo s x := by
    rintro (y | y | y | y | y)
    · exact y h
    · exact y ht
    · omega
    · omega
    · exact y hj
  unfold askS
  rw [if_neg hn, hk, Int.toNat_natCast]
structure FU (i j : Nat) (s : Sd) : Prop where
  r : rightS s
  n : s.jobs.length = 2
  a : (s.jobs.getD 0 default).length = i
  b : (s.jobs.getD 1 default).length = j
variable {i j : Nat} {s : Sd}
theorem FU.ask0 (h : FU i j s) {x : Jb} (hk : x.who = 0) (ht : x.tries = 0) (hj : jobOk x) (hi : i < 200) : (askS s x).2 = 0 ∧ FU (i + 1) j (askS s x).1 := by
  have e := ask_there (k := 0) h.r hk (by rw [h.n]; decide) ht hj
  rw [if_neg (by rw [h.a]; omega)] at e
  have hr := ask_right (x := x) h.r
  rw [e] at hr ⊢
  refine ⟨rfl, hr, by show (s.jobs.set _ _).length = 2; rw [List.length_set]; exact h.n, ?_, ?_⟩
  · show ((s.jobs.set 0 _).getD 0 default).length = _
    rw [set_at (by rw [h.n]; decide), if_pos rfl, List.length_append, h.a]; rfl
  · show ((s.jobs.set 0 _).getD 1 default).length = _
    rw [set_at (by rw [h.n]; decide), if_neg (by decide), h.b]
theorem FU.ask1 (h : FU i j s) {x : Jb} (hk : x.who = 1) (ht : x.tries = 0) (hj : jobOk x) (hi : j < 200) : (askS s x).2 = 0 ∧ FU i (j + 1) (askS s x).1 := by
  have e := ask_there (k := 1) h.r hk (by rw [h.n]; decide) ht hj
  rw [if_neg (by rw [h.b]; omega)] at e
  have hr := ask_right (x := x) h.r
  rw [e] at hr ⊢
  refine ⟨rfl, hr, by show (s.jobs.set _ _).length = 2; rw [List.length_set]; exact h.n, ?_, ?_⟩
  · show ((s.jobs.set 1 _).getD 0 default).length = _
    rw [set_at (by rw [h.n]; decide), if_neg (by decide), h.a]
  · show ((s.jobs.set 1 _).getD 1 default).length = _
    rw [set_at (by rw [h.n]; decide), if_pos rfl, List.length_append, h.b]; rfl
theorem FU.ask7 (h : FU 200 j s) {x : Jb} (hk : x.who = 0) (ht : x.tries = 0) (hj : jobOk x) : askS s x = (s, 7) := by
  rw [ask_there (k := 0) h.r hk (by rw [h.n]; decide) ht hj, if_pos (by rw [h.a]; omega)]
def f0 : Sd := (newS v0 [1, 1]).1
theorem f0e : (newS v0 [1, 1]).2 = 0 := by decide +kernel
theorem FU.zero : FU 0 0 f0 := ⟨by decide +kernel, by decide +kernel, by decide +kernel, by decide +kernel⟩
section
variable {P : Program} {F : Nat → Nat}
set_option maxHeartbeats 8000000 in
set_option maxRecDepth 100000 in
theorem schedFull_law (L : KLS P F) (hk : law06_SchedFull_k P F) (page : UInt8) : FnOk P (F 163) [.one (.int .u8 page.toNat)] [.one (.im (.bool true))] := by
  have K := L.k
  refine fnOk K.d.k.m hk ?_
  have hpg := page.toNat_lt
  repeat' first | (with_reducible first | refine nI1 ?_ | refine nI2 ?_ | refine nI3 ?_ | exact ⟨⟩ | refine Both.mk (fun _ => ?_) fun _ => ?_ | refine Both2.mk (fun _ => ?_) ?_) | ((with_reducible refine Need.mk ?_ ?_; show CEq _ _); exact CEq.refl _) | (with_reducible refine Need.mk ?_ ?_; (first | omega | exact CEq.refl _ | (dsimp only [rng]; omega) | (rw [Int.toNat_natCast]; omega) | (simp only [addN_eq]; omega))) | ((with_reducible fail_if_success first | constructor | show False); conv => whnf)
  refine CallVC.mk' (fun _ => S04.new_ok K.d L.new4) (fun _ => .nil) ?_
  repeat' first | (with_reducible first | refine nI1 ?_ | refine nI2 ?_ | refine nI3 ?_ | exact ⟨⟩ | refine Both.mk (fun _ => ?_) fun _ => ?_ | refine Both2.mk (fun _ => ?_) ?_) | ((with_reducible refine Need.mk ?_ ?_; show CEq _ _); exact CEq.refl _) | (with_reducible refine Need.mk ?_ ?_; (first | omega | exact CEq.refl _ | (dsimp only [rng]; omega) | (rw [Int.toNat_natCast]; omega) | (simp only [addN_eq]; omega))) | ((with_reducible fail_if_success first | constructor | show False); conv => whnf)
  refine CallVC.mk' (fun _ => newS_ok K v0 [1, 1] sv0' (by decide)) (fun _ => .cons ((.many fun j hj => by (rcases (show j = 0 ∨ j = 1 ∨ j = 2 ∨ j = 3 by omega) with rfl | rfl | rfl | rfl <;> exact CEq.refl _))) (.cons (.one (IsL.ceq (l := [1, 1]) (fun i hi j hj => by (obtain rfl : j = 0 := (by omega)); (rcases (show i = 0 ∨ i = 1 by (have hi : i < 2 := hi; omega)) with rfl | rfl <;> exact CEq.refl _)) rfl)) .nil)) ?_
  rw [f0e, show (newS v0 [1, 1]).1 = f0 from rfl]
  have I0 := FU.zero
  generalize f0 = s0 at *
  repeat' first | (with_reducible first | refine nI1 ?_ | refine nI2 ?_ | refine nI3 ?_ | exact ⟨⟩ | refine Both.mk (fun _ => ?_) fun _ => ?_ | refine Both2.mk (fun _ => ?_) ?_) | ((with_reducible refine Need.mk ?_ ?_; show CEq _ _); exact CEq.refl _) | (with_reducible refine Need.mk ?_ ?_; (first | omega | exact CEq.refl _ | (dsimp only [rng]; omega) | (rw [Int.toNat_natCast]; omega) | (simp only [addN_eq]; omega))) | ((with_reducible fail_if_success first | constructor | show False); conv => whnf)
  obtain ⟨p, hp⟩ : ∃ p : Int, 1 + (page.toNat : Int) % 16 = p := ⟨_, rfl⟩
  rw [hp]
  have hpb : 1 ≤ p ∧ p ≤ 16 := by omega
  clear hp hpg
  have hjo : ∀ w : Int, jobOk ⟨w, 1, p, [], 0⟩ := fun w => .inl ⟨rfl, hpb, rfl⟩
  refine LoopVC.inv (X := Sd × Nat) (fun x => x.2 ≤ 200 ∧ FU x.2 0 x.1) (fun x => stL [(3, .va 3 0 0), (4, .c (.int .i64 0)), (5, .va 5 0 0), (23, .c (.int .i64 x.2))] [(3, sV x.1), (5, vE [.c (.int .i64 0), .c (.int .i64 1), .c (.int .i64 p), .c (.str []), .c (.int .i64 0)])])
    (fun x => 200 - x.2) (s0, 0) ⟨Nat.zero_le _, I0⟩ ?_ ?_
  · (refine Le.of ?_ ?_ <;> repeat' first | exact trivial | exact CEq.refl _ | exact rfl | exact cI (by push_cast; first | rfl | omega) | exact SubE.dat fun _ _ _ _ => CEq.refl _ | refine SubE.var2 ?_ ?_ | refine SubE.var1 ?_ | refine SubE.var3 ?_ ?_ ?_ | refine SubE.var4 ?_ ?_ ?_ ?_ | refine SubE.var5 ?_ ?_ ?_ ?_ ?_ | refine SubE.varN ?_ | refine Exists.intro _ (And.intro rfl ?_) | refine And.intro ?_ ?_)
  rintro Q hQ ⟨s, i⟩ ⟨hi, I⟩
  dsimp only at hi I
  dsimp only
  have S := I.r.small
  repeat' first | (with_reducible first | refine nI1 ?_ | refine nI2 ?_ | refine nI3 ?_ | exact ⟨⟩ | refine Both.mk (fun _ => ?_) fun _ => ?_ | refine Both2.mk (fun _ => ?_) ?_) | ((with_reducible refine Need.mk ?_ ?_; show CEq _ _); exact CEq.refl _) | (with_reducible refine Need.mk ?_ ?_; (first | omega | exact CEq.refl _ | (dsimp only [rng]; omega) | (rw [Int.toNat_natCast]; omega) | (simp only [addN_eq]; omega))) | ((with_reducible fail_if_success first | constructor | show False); conv => whnf)
  · rename_i g
    have g : i < 200 := by have := of_decide_eq_true g; omega
    refine CallVC.mk' (fun _ => ask_ok K s ⟨0, 1, p, [], 0⟩ S (Nat.zero_le _)) (fun _ => .cons ((.many fun j hj => by (rcases (show j = 0 ∨ j = 1 ∨ j = 2 ∨ j = 3 ∨ j = 4 ∨ j = 5 ∨ j = 6 ∨ j = 7 ∨ j = 8 by omega) with rfl | rfl | rfl | rfl | rfl | rfl | rfl | rfl | rfl <;> exact CEq.refl _))) (.cons ((.many fun j hj => by (rcases (show j = 0 ∨ j = 1 ∨ j = 2 ∨ j = 3 ∨ j = 4 by omega) with rfl | rfl | rfl | rfl | rfl <;> exact CEq.refl _))) .nil)) ?_
    have I1 := I.ask0 (x := ⟨0, 1, p, [], 0⟩) rfl rfl (hjo 0) g
    rw [I1.1]
    have I2 := I1.2
    generalize (askS s ⟨0, 1, p, [], 0⟩).1 = s2 at *
    repeat' first | (with_reducible first | refine nI1 ?_ | refine nI2 ?_ | refine nI3 ?_ | exact ⟨⟩ | refine Both.mk (fun _ => ?_) fun _ => ?_ | refine Both2.mk (fun _ => ?_) ?_) | ((with_reducible refine Need.mk ?_ ?_; show CEq _ _); exact CEq.refl _) | (with_reducible refine Need.mk ?_ ?_; (first | omega | exact CEq.refl _ | (dsimp only [rng]; omega) | (rw [Int.toNat_natCast]; omega) | (simp only [addN_eq]; omega))) | ((with_reducible fail_if_success first | constructor | show False); conv => whnf)
    · rename_i z
      exact absurd z (by decide)
    refine LoopEnd.mk ⟨(s2, i + 1), ⟨g, I2⟩, by show 200 - (i + 1) < 200 - i; omega, ?_⟩
    clear hQ
    (refine Le.of ?_ ?_ <;> repeat' first | exact trivial | exact CEq.refl _ | exact rfl | exact cI (by push_cast; first | rfl | omega) | exact SubE.dat fun _ _ _ _ => CEq.refl _ | refine SubE.var2 ?_ ?_ | refine SubE.var1 ?_ | refine SubE.var3 ?_ ?_ ?_ | refine SubE.var4 ?_ ?_ ?_ ?_ | refine SubE.var5 ?_ ?_ ?_ ?_ ?_ | refine SubE.varN ?_ | refine Exists.intro _ (And.intro rfl ?_) | refine And.intro ?_ ?_)
  · rename_i g
    have g : i = 200 := by have := of_decide_eq_false g; omega
    subst g
    refine Out.mk (hQ _ _ ?_)
    clear hQ
    repeat' first | (with_reducible first | refine nI1 ?_ | refine nI2 ?_ | refine nI3 ?_ | exact ⟨⟩ | refine Both.mk (fun _ => ?_) fun _ => ?_ | refine Both2.mk (fun _ => ?_) ?_) | ((with_reducible refine Need.mk ?_ ?_; show CEq _ _); exact CEq.refl _) | (with_reducible refine Need.mk ?_ ?_; (first | omega | exact CEq.refl _ | (dsimp only [rng]; omega) | (rw [Int.toNat_natCast]; omega) | (simp only [addN_eq]; omega))) | ((with_reducible fail_if_success first | constructor | show False); conv => whnf)
    refine CallVC.mk' (fun _ => ask_ok K s ⟨0, 1, p, [], 0⟩ S (Nat.zero_le _)) (fun _ => .cons ((.many fun j hj => by (rcases (show j = 0 ∨ j = 1 ∨ j = 2 ∨ j = 3 ∨ j = 4 ∨ j = 5 ∨ j = 6 ∨ j = 7 ∨ j = 8 by omega) with rfl | rfl | rfl | rfl | rfl | rfl | rfl | rfl | rfl <;> exact CEq.refl _))) (.cons ((.many fun j hj => by (rcases (show j = 0 ∨ j = 1 ∨ j = 2 ∨ j = 3 ∨ j = 4 by omega) with rfl | rfl | rfl | rfl | rfl <;> exact CEq.refl _))) .nil)) ?_
    rw [I.ask7 (x := ⟨0, 1, p, [], 0⟩) rfl rfl (hjo 0)]
    repeat' first | (with_reducible first | refine nI1 ?_ | refine nI2 ?_ | refine nI3 ?_ | exact ⟨⟩ | refine Both.mk (fun _ => ?_) fun _ => ?_ | refine Both2.mk (fun _ => ?_) ?_) | ((with_reducible refine Need.mk ?_ ?_; show CEq _ _); exact CEq.refl _) | (with_reducible refine Need.mk ?_ ?_; (first | omega | exact CEq.refl _ | (dsimp only [rng]; omega) | (rw [Int.toNat_natCast]; omega) | (simp only [addN_eq]; omega))) | ((with_reducible fail_if_success first | constructor | show False); conv => whnf)
    refine CallVC.mk' (fun _ => ask_ok K s ⟨1, 1, p, [], 0⟩ S (Nat.zero_le _)) (fun _ => .cons ((.many fun j hj => by (rcases (show j = 0 ∨ j = 1 ∨ j = 2 ∨ j = 3 ∨ j = 4 ∨ j = 5 ∨ j = 6 ∨ j = 7 ∨ j = 8 by omega) with rfl | rfl | rfl | rfl | rfl | rfl | rfl | rfl | rfl <;> exact CEq.refl _))) (.cons ((.many fun j hj => by (rcases (show j = 0 ∨ j = 1 ∨ j = 2 ∨ j = 3 ∨ j = 4 by omega) with rfl | rfl | rfl | rfl | rfl <;> exact CEq.refl _))) .nil)) ?_
    have I1 := I.ask1 (x := ⟨1, 1, p, [], 0⟩) rfl rfl (hjo 1) (by decide)
    rw [I1.1]
    have I2 := I1.2
    generalize (askS s ⟨1, 1, p, [], 0⟩).1 = s2 at *
    have h2 := I2.n
    have h3 := I2.a
    repeat' first | (with_reducible first | refine nI1 ?_ | refine nI2 ?_ | refine nI3 ?_ | exact ⟨⟩ | refine Both.mk (fun _ => ?_) fun _ => ?_ | refine Both2.mk (fun _ => ?_) ?_) | ((with_reducible refine Need.mk ?_ ?_; show CEq _ _); exact CEq.refl _) | (with_reducible refine Need.mk ?_ ?_; (first | omega | exact CEq.refl _ | (dsimp only [rng]; omega) | (rw [Int.toNat_natCast]; omega) | (simp only [addN_eq]; omega))) | ((with_reducible fail_if_success first | constructor | show False); conv => whnf)
    refine CallVC.mk' (fun _ => awake_ok L) (fun _ => .nil) ?_
    rw [h2, show (s2.jobs.getD (Int.toNat 0) default).length = 200 from h3]
    repeat' first | (with_reducible first | refine nI1 ?_ | refine nI2 ?_ | refine nI3 ?_ | exact ⟨⟩ | refine Both.mk (fun _ => ?_) fun _ => ?_ | refine Both2.mk (fun _ => ?_) ?_) | ((with_reducible refine Need.mk ?_ ?_; show CEq _ _); exact CEq.refl _) | (with_reducible refine Need.mk ?_ ?_; (first | omega | exact CEq.refl _ | (dsimp only [rng]; omega) | (rw [Int.toNat_natCast]; omega) | (simp only [addN_eq]; omega))) | ((with_reducible fail_if_success first | constructor | show False); conv => whnf)
end
end Lk.S06
namespace Lk.S06
open Go Lk Lk.C Lk.S03 Lk.S04
/-- The weights stay. -/
structure WS (s : Sd) : Prop where
  r : rightS s
  n : s.lanes.list.length = 2
  a : (s.lanes.list.getD 0 default).weight = 1
  b : (s.lanes.list.getD 1 default).weight = 3
variable {s : Sd}
theorem WS.to {s2 : Sd} (h : WS s) (hr : rightS s2) (hl : s2.lanes.list.length = s.lanes.list.length) (hw : ∀ i, i < s.lanes.list.length → (s2.lanes.list.getD i default).weight = (s.lanes.list.getD i default).weight) : WS s2 :=
  ⟨hr, hl.trans h.n, (hw 0 (by rw [h.n]; decide)).trans h.a, (hw 1 (by rw [h.n]; decide)).trans h.b⟩
theorem WS.ask (h : WS s) (x : Jb) : WS (askS s x).1 := h.to (ask_right h.r) (ask_fx).2.2.2.1 (ask_fx).2.2.2.2
theorem WS.pump (h : WS s) : WS (pumpS s) := h.to (pump_right h.r) (pump_fx h.r).2.2.1 (pump_fx h.r).2.2.2
theorem WS.done (h : WS s) (n : Int) (f : Bool) : WS (doneS s n f).1 := h.to (done_right h.r) (by rw [(done_fx h.r).2.1]) (fun i hi => by rw [(done_fx h.r).2.1])
theorem WS.zero : WS p0 := ⟨p0r, by decide +kernel, by decide +kernel, by decide +kernel⟩
theorem WS.map (h : WS s) : s.lanes.list.map (·.weight) = [1, 3] := by
  have hn := h.n
  have ha := h.a
  have hb := h.b
  match hl : s.lanes.list, hn with
  | [x, y], _ =>
    rw [hl] at ha hb
    have ha : x.weight = 1 := ha
    have hb : y.weight = 3 := hb
    show [x.weight, y.weight] = _
    rw [ha, hb]
theorem crash_rightV {d : Dv} {keep : List Int} (h : rightV d) : rightV (crashV d keep) := by
  unfold crashV
  rw [if_pos h]
  refine ⟨⟨h.1.1.crash, ?_⟩, ⟨h.2.1.1, h.2.1.2.1, Nat.zero_le _⟩, fun i hi => absurd hi (Nat.not_lt_zero i)⟩
  show 35 ≤ (d.disk.crash keep).secs.length
  have := h.1.2
  unfold Dsk.crash
  rw [if_pos h.1.1]
  show 35 ≤ (wrS _ _).length
  rw [wrS_len]; exact this
/-- What a crash leaves. -/
theorem WS.crash (h : WS s) (keep : List Int) : rightS (crashS s keep) ∧ (crashS s keep).out = [] ∧ (crashS s keep).jobs = [[], []] ∧ (crashS s keep).lanes = S05.newL [1, 3] ∧ (crashS s keep).dev = ⟨s.dev.disk.crash keep, s.dev.next, []⟩ := by
  have e : crashS s keep = ⟨S05.newL [1, 3], [[], []], crashV s.dev keep, []⟩ := by unfold crashS; rw [if_pos h.r, h.map, h.n]; rfl
  have ev : crashV s.dev keep = ⟨s.dev.disk.crash keep, s.dev.next, []⟩ := if_pos h.r.1.2
  have hr := crash_rightV (keep := keep) h.r.1.2
  rw [e]
  refine ⟨⟨⟨show S05.right (S05.newL [1, 3]) by decide +kernel, hr⟩, ⟨show ([[], []] : List (List Jb)).length = (S05.newL [1, 3]).list.length by decide +kernel, by rw [ev]; rfl⟩, fun i hi => ?_, fun i hi => absurd hi (Nat.not_lt_zero i)⟩, rfl, rfl, rfl, ev⟩
  have hi : i < 2 := hi
  rcases (show i = 0 ∨ i = 1 by omega) with rfl | rfl
  · exact ⟨show ([] : List Jb).length = ((S05.newL [1, 3]).list.getD 0 default).costs.length by decide +kernel, fun k hk => absurd hk (Nat.not_lt_zero k)⟩
  · exact ⟨show ([] : List Jb).length = ((S05.newL [1, 3]).list.getD 1 default).costs.length by decide +kernel, fun k hk => absurd hk (Nat.not_lt_zero k)⟩
section
variable {P : Program} {F : Nat → Nat}
set_option maxHeartbeats 8000000 in
set_option maxRecDepth 100000 in
theorem schedCrash_law (L : KLS P F) (R : KRef P F) (hk : law06_SchedCrash_k P F) (acts : List Ac) (keep : List Int) (W : (∀ x ∈ acts, EAc.wf x) ∧ acts.length ≤ 9223372036854775807) (hkl : keep.length ≤ 9223372036854775807) :
    FnOk P (F 165) [.one (slL 7 acE acts), .one (slL 1 intE keep)] [.one (.im (.bool true))] := by
  have K := L.k
  refine fnOk K.d.k.m hk ?_
  repeat' first | (with_reducible first | refine nI1 ?_ | refine nI2 ?_ | refine nI3 ?_ | exact ⟨⟩ | refine Both.mk (fun _ => ?_) fun _ => ?_ | refine Both2.mk (fun _ => ?_) ?_) | ((with_reducible refine Need.mk ?_ ?_; show CEq _ _); exact CEq.refl _) | (with_reducible refine Need.mk ?_ ?_; (first | omega | exact CEq.refl _ | (dsimp only [rng]; omega) | (rw [Int.toNat_natCast]; omega) | (simp only [addN_eq]; omega))) | ((with_reducible fail_if_success first | constructor | show False); conv => whnf)
  refine CallVC.mk' (fun _ => S04.new_ok K.d L.new4) (fun _ => .nil) ?_
  repeat' first | (with_reducible first | refine nI1 ?_ | refine nI2 ?_ | refine nI3 ?_ | exact ⟨⟩ | refine Both.mk (fun _ => ?_) fun _ => ?_ | refine Both2.mk (fun _ => ?_) ?_) | ((with_reducible refine Need.mk ?_ ?_; show CEq _ _); exact CEq.refl _) | (with_reducible refine Need.mk ?_ ?_; (first | omega | exact CEq.refl _ | (dsimp only [rng]; omega) | (rw [Int.toNat_natCast]; omega) | (simp only [addN_eq]; omega))) | ((with_reducible fail_if_success first | constructor | show False); conv => whnf)
  refine CallVC.mk' (fun _ => newS_ok K v0 [1, 3] sv0' (by decide)) (fun _ => .cons ((.many fun j hj => by (rcases (show j = 0 ∨ j = 1 ∨ j = 2 ∨ j = 3 by omega) with rfl | rfl | rfl | rfl <;> exact CEq.refl _))) (.cons (.one (IsL.ceq (l := [1, 3]) (fun i hi j hj => by (obtain rfl : j = 0 := (by omega)); (rcases (show i = 0 ∨ i = 1 by (have hi : i < 2 := hi; omega)) with rfl | rfl <;> exact CEq.refl _)) rfl)) .nil)) ?_
  rw [p0e, show (newS v0 [1, 3]).1 = p0 from rfl]
  have I0 := WS.zero
  generalize p0 = s0 at *
  repeat' first | (with_reducible first | refine nI1 ?_ | refine nI2 ?_ | refine nI3 ?_ | exact ⟨⟩ | refine Both.mk (fun _ => ?_) fun _ => ?_ | refine Both2.mk (fun _ => ?_) ?_) | ((with_reducible refine Need.mk ?_ ?_; show CEq _ _); exact CEq.refl _) | (with_reducible refine Need.mk ?_ ?_; (first | omega | exact CEq.refl _ | (dsimp only [rng]; omega) | (rw [Int.toNat_natCast]; omega) | (simp only [addN_eq]; omega))) | ((with_reducible fail_if_success first | constructor | show False); conv => whnf)
  · refine CallVC.mk' (fun _ => awake_ok L) (fun _ => .nil) ?_
    repeat' first | (with_reducible first | refine nI1 ?_ | refine nI2 ?_ | refine nI3 ?_ | exact ⟨⟩ | refine Both.mk (fun _ => ?_) fun _ => ?_ | refine Both2.mk (fun _ => ?_) ?_) | ((with_reducible refine Need.mk ?_ ?_; show CEq _ _); exact CEq.refl _) | (with_reducible refine Need.mk ?_ ?_; (first | omega | exact CEq.refl _ | (dsimp only [rng]; omega) | (rw [Int.toNat_natCast]; omega) | (simp only [addN_eq]; omega))) | ((with_reducible fail_if_success first | constructor | show False); conv => whnf)
  rename_i h60
  have h60 : acts.length ≤ 60 ∧ keep.length ≤ 60 := by
    simp only [decide_eq_true (show (0 : Int) = 0 from rfl), Bool.not_true, Bool.false_or, Bool.or_eq_false_iff, decide_eq_false_iff_not] at h60
    omega
  refine LoopVC.inv (X := Sd × Nat) (fun x => x.2 ≤ acts.length ∧ WS x.1) (fun x => stL [(1, .c (slL 1 intE keep)), (5, .va 5 0 0), (33, .c (slL 7 acE acts)), (34, .c (.int .i64 acts.length)), (35, .c (.int .i64 x.2))] [(5, sV x.1)])
    (fun x => acts.length - x.2) (s0, 0) ⟨Nat.zero_le _, I0⟩ ?_ ?_
  · (refine Le.of ?_ ?_ <;> repeat' first | exact trivial | exact CEq.refl _ | exact rfl | exact cI (by push_cast; first | rfl | omega) | exact SubE.dat fun _ _ _ _ => CEq.refl _ | refine SubE.var2 ?_ ?_ | refine SubE.var1 ?_ | refine SubE.var3 ?_ ?_ ?_ | refine SubE.var4 ?_ ?_ ?_ ?_ | refine SubE.var5 ?_ ?_ ?_ ?_ ?_ | refine SubE.varN ?_ | refine Exists.intro _ (And.intro rfl ?_) | refine And.intro ?_ ?_)
  rintro Q hQ ⟨s, i⟩ ⟨hi, I⟩
  dsimp only at hi I
  dsimp only
  have S := I.r.small
  repeat' first | (with_reducible first | refine nI1 ?_ | refine nI2 ?_ | refine nI3 ?_ | exact ⟨⟩ | refine Both.mk (fun _ => ?_) fun _ => ?_ | refine Both2.mk (fun _ => ?_) ?_) | ((with_reducible refine Need.mk ?_ ?_; show CEq _ _); exact CEq.refl _) | (with_reducible refine Need.mk ?_ ?_; (first | omega | exact CEq.refl _ | (dsimp only [rng]; omega) | (rw [Int.toNat_natCast]; omega) | (simp only [addN_eq]; omega))) | ((with_reducible fail_if_success first | constructor | show False); conv => whnf)
  · rename_i g
    have g : i < acts.length := by have := of_decide_eq_true g; omega
    have Wx := W.1 _ (getD_mem g)
    have h1 : i + 1 ≤ acts.length := g
    repeat' first | (with_reducible first | refine nI1 ?_ | refine nI2 ?_ | refine nI3 ?_ | exact ⟨⟩ | refine Both.mk (fun _ => ?_) fun _ => ?_ | refine Both2.mk (fun _ => ?_) ?_) | ((with_reducible refine Need.mk ?_ ?_; show CEq _ _); exact CEq.refl _) | (with_reducible refine Need.mk ?_ ?_; (first | omega | exact CEq.refl _ | (dsimp only [rng]; omega) | (rw [Int.toNat_natCast]; omega) | (simp only [addN_eq]; omega))) | ((with_reducible fail_if_success first | constructor | show False); conv => whnf)
    · refine CallVC.mk' (fun _ => ask_ok K s (acts.getD i default).j S Wx.1) (fun _ => .cons ((.many fun j hj => by (rcases (show j = 0 ∨ j = 1 ∨ j = 2 ∨ j = 3 ∨ j = 4 ∨ j = 5 ∨ j = 6 ∨ j = 7 ∨ j = 8 by omega) with rfl | rfl | rfl | rfl | rfl | rfl | rfl | rfl | rfl <;> exact CEq.refl _))) (.cons ((.many fun j hj => by (rcases (show j = 0 ∨ j = 1 ∨ j = 2 ∨ j = 3 ∨ j = 4 by omega) with rfl | rfl | rfl | rfl | rfl <;> exact CEq.refl _))) .nil)) ?_
      have I2 := I.ask (acts.getD i default).j
      generalize (askS s (acts.getD i default).j).1 = s2 at *
      generalize (askS s (acts.getD i default).j).2 = e2 at *
      repeat' first | (with_reducible first | refine nI1 ?_ | refine nI2 ?_ | refine nI3 ?_ | exact ⟨⟩ | refine Both.mk (fun _ => ?_) fun _ => ?_ | refine Both2.mk (fun _ => ?_) ?_) | ((with_reducible refine Need.mk ?_ ?_; show CEq _ _); exact CEq.refl _) | (with_reducible refine Need.mk ?_ ?_; (first | omega | exact CEq.refl _ | (dsimp only [rng]; omega) | (rw [Int.toNat_natCast]; omega) | (simp only [addN_eq]; omega))) | ((with_reducible fail_if_success first | constructor | show False); conv => whnf)
      refine LoopEnd.mk ⟨(s2, i + 1), ⟨h1, I2⟩, by show acts.length - (i + 1) < acts.length - i; omega, ?_⟩
      clear hQ
      (refine Le.of ?_ ?_ <;> repeat' first | exact trivial | exact CEq.refl _ | exact rfl | exact cI (by push_cast; first | rfl | omega) | exact SubE.dat fun _ _ _ _ => CEq.refl _ | refine SubE.var2 ?_ ?_ | refine SubE.var1 ?_ | refine SubE.var3 ?_ ?_ ?_ | refine SubE.var4 ?_ ?_ ?_ ?_ | refine SubE.var5 ?_ ?_ ?_ ?_ ?_ | refine SubE.varN ?_ | refine Exists.intro _ (And.intro rfl ?_) | refine And.intro ?_ ?_)
    · refine CallVC.mk' (fun _ => pump_ok K s S) (fun _ => .cons ((.many fun j hj => by (rcases (show j = 0 ∨ j = 1 ∨ j = 2 ∨ j = 3 ∨ j = 4 ∨ j = 5 ∨ j = 6 ∨ j = 7 ∨ j = 8 by omega) with rfl | rfl | rfl | rfl | rfl | rfl | rfl | rfl | rfl <;> exact CEq.refl _))) .nil) ?_
      have I2 := I.pump
      generalize pumpS s = s2 at *
      repeat' first | (with_reducible first | refine nI1 ?_ | refine nI2 ?_ | refine nI3 ?_ | exact ⟨⟩ | refine Both.mk (fun _ => ?_) fun _ => ?_ | refine Both2.mk (fun _ => ?_) ?_) | ((with_reducible refine Need.mk ?_ ?_; show CEq _ _); exact CEq.refl _) | (with_reducible refine Need.mk ?_ ?_; (first | omega | exact CEq.refl _ | (dsimp only [rng]; omega) | (rw [Int.toNat_natCast]; omega) | (simp only [addN_eq]; omega))) | ((with_reducible fail_if_success first | constructor | show False); conv => whnf)
      refine LoopEnd.mk ⟨(s2, i + 1), ⟨h1, I2⟩, by show acts.length - (i + 1) < acts.length - i; omega, ?_⟩
      clear hQ
      (refine Le.of ?_ ?_ <;> repeat' first | exact trivial | exact CEq.refl _ | exact rfl | exact cI (by push_cast; first | rfl | omega) | exact SubE.dat fun _ _ _ _ => CEq.refl _ | refine SubE.var2 ?_ ?_ | refine SubE.var1 ?_ | refine SubE.var3 ?_ ?_ ?_ | refine SubE.var4 ?_ ?_ ?_ ?_ | refine SubE.var5 ?_ ?_ ?_ ?_ ?_ | refine SubE.varN ?_ | refine Exists.intro _ (And.intro rfl ?_) | refine And.intro ?_ ?_)
    · refine CallVC.mk' (fun _ => done_ok K s (acts.getD i default).n (decide ((acts.getD i default).kind = 3)) S) (fun _ => .cons ((.many fun j hj => by (rcases (show j = 0 ∨ j = 1 ∨ j = 2 ∨ j = 3 ∨ j = 4 ∨ j = 5 ∨ j = 6 ∨ j = 7 ∨ j = 8 by omega) with rfl | rfl | rfl | rfl | rfl | rfl | rfl | rfl | rfl <;> exact CEq.refl _))) (.cons (.one (CEq.refl _)) (.cons (.one (CEq.refl _)) .nil))) ?_
      have I2 := I.done (acts.getD i default).n (decide ((acts.getD i default).kind = 3))
      generalize (doneS s (acts.getD i default).n (decide ((acts.getD i default).kind = 3))).1 = s2 at *
      generalize (doneS s (acts.getD i default).n (decide ((acts.getD i default).kind = 3))).2 = y2 at *
      repeat' first | (with_reducible first | refine nI1 ?_ | refine nI2 ?_ | refine nI3 ?_ | exact ⟨⟩ | refine Both.mk (fun _ => ?_) fun _ => ?_ | refine Both2.mk (fun _ => ?_) ?_) | ((with_reducible refine Need.mk ?_ ?_; show CEq _ _); exact CEq.refl _) | (with_reducible refine Need.mk ?_ ?_; (first | omega | exact CEq.refl _ | (dsimp only [rng]; omega) | (rw [Int.toNat_natCast]; omega) | (simp only [addN_eq]; omega))) | ((with_reducible fail_if_success first | constructor | show False); conv => whnf)
      refine LoopEnd.mk ⟨(s2, i + 1), ⟨h1, I2⟩, by show acts.length - (i + 1) < acts.length - i; omega, ?_⟩
      clear hQ
      (refine Le.of ?_ ?_ <;> repeat' first | exact trivial | exact CEq.refl _ | exact rfl | exact cI (by push_cast; first | rfl | omega) | exact SubE.dat fun _ _ _ _ => CEq.refl _ | refine SubE.var2 ?_ ?_ | refine SubE.var1 ?_ | refine SubE.var3 ?_ ?_ ?_ | refine SubE.var4 ?_ ?_ ?_ ?_ | refine SubE.var5 ?_ ?_ ?_ ?_ ?_ | refine SubE.varN ?_ | refine Exists.intro _ (And.intro rfl ?_) | refine And.intro ?_ ?_)
    · rename_i z1 z2 z3 z4
      exact absurd (z3.symm.trans z4) (by decide)
    · refine CallVC.mk' (fun _ => done_ok K s (acts.getD i default).n (decide ((acts.getD i default).kind = 3)) S) (fun _ => .cons ((.many fun j hj => by (rcases (show j = 0 ∨ j = 1 ∨ j = 2 ∨ j = 3 ∨ j = 4 ∨ j = 5 ∨ j = 6 ∨ j = 7 ∨ j = 8 by omega) with rfl | rfl | rfl | rfl | rfl | rfl | rfl | rfl | rfl <;> exact CEq.refl _))) (.cons (.one (CEq.refl _)) (.cons (.one (CEq.refl _)) .nil))) ?_
      have I2 := I.done (acts.getD i default).n (decide ((acts.getD i default).kind = 3))
      generalize (doneS s (acts.getD i default).n (decide ((acts.getD i default).kind = 3))).1 = s2 at *
      generalize (doneS s (acts.getD i default).n (decide ((acts.getD i default).kind = 3))).2 = y2 at *
      repeat' first | (with_reducible first | refine nI1 ?_ | refine nI2 ?_ | refine nI3 ?_ | exact ⟨⟩ | refine Both.mk (fun _ => ?_) fun _ => ?_ | refine Both2.mk (fun _ => ?_) ?_) | ((with_reducible refine Need.mk ?_ ?_; show CEq _ _); exact CEq.refl _) | (with_reducible refine Need.mk ?_ ?_; (first | omega | exact CEq.refl _ | (dsimp only [rng]; omega) | (rw [Int.toNat_natCast]; omega) | (simp only [addN_eq]; omega))) | ((with_reducible fail_if_success first | constructor | show False); conv => whnf)
      refine LoopEnd.mk ⟨(s2, i + 1), ⟨h1, I2⟩, by show acts.length - (i + 1) < acts.length - i; omega, ?_⟩
      clear hQ
      (refine Le.of ?_ ?_ <;> repeat' first | exact trivial | exact CEq.refl _ | exact rfl | exact cI (by push_cast; first | rfl | omega) | exact SubE.dat fun _ _ _ _ => CEq.refl _ | refine SubE.var2 ?_ ?_ | refine SubE.var1 ?_ | refine SubE.var3 ?_ ?_ ?_ | refine SubE.var4 ?_ ?_ ?_ ?_ | refine SubE.var5 ?_ ?_ ?_ ?_ ?_ | refine SubE.varN ?_ | refine Exists.intro _ (And.intro rfl ?_) | refine And.intro ?_ ?_)
    · have I2 := I
      generalize hss : s = s2 at *
      refine LoopEnd.mk ⟨(s2, i + 1), ⟨h1, I2⟩, by show acts.length - (i + 1) < acts.length - i; omega, ?_⟩
      clear hQ
      (refine Le.of ?_ ?_ <;> repeat' first | exact trivial | exact CEq.refl _ | exact rfl | exact cI (by push_cast; first | rfl | omega) | exact SubE.dat fun _ _ _ _ => CEq.refl _ | refine SubE.var2 ?_ ?_ | refine SubE.var1 ?_ | refine SubE.var3 ?_ ?_ ?_ | refine SubE.var4 ?_ ?_ ?_ ?_ | refine SubE.var5 ?_ ?_ ?_ ?_ ?_ | refine SubE.varN ?_ | refine Exists.intro _ (And.intro rfl ?_) | refine And.intro ?_ ?_)
  · rename_i g
    refine Out.mk (hQ _ _ ?_)
    clear hQ
    repeat' first | (with_reducible first | refine nI1 ?_ | refine nI2 ?_ | refine nI3 ?_ | exact ⟨⟩ | refine Both.mk (fun _ => ?_) fun _ => ?_ | refine Both2.mk (fun _ => ?_) ?_) | ((with_reducible refine Need.mk ?_ ?_; show CEq _ _); exact CEq.refl _) | (with_reducible refine Need.mk ?_ ?_; (first | omega | exact CEq.refl _ | (dsimp only [rng]; omega) | (rw [Int.toNat_natCast]; omega) | (simp only [addN_eq]; omega))) | ((with_reducible fail_if_success first | constructor | show False); conv => whnf)
    refine CallVC.mk' (fun _ => crashS_ok K s keep S (by omega)) (fun _ => .cons ((.many fun j hj => by (rcases (show j = 0 ∨ j = 1 ∨ j = 2 ∨ j = 3 ∨ j = 4 ∨ j = 5 ∨ j = 6 ∨ j = 7 ∨ j = 8 by omega) with rfl | rfl | rfl | rfl | rfl | rfl | rfl | rfl | rfl <;> exact CEq.refl _))) (.cons (.one (CEq.refl _)) .nil)) ?_
    have c1 := (I.crash keep).1
    have c2 := (I.crash keep).2.1
    have c3 := (I.crash keep).2.2.1
    have c4 := (I.crash keep).2.2.2.1
    have c5 := (I.crash keep).2.2.2.2
    have d1 : SmallS (crashS s keep) := c1.small
    have n1 : (S05.newL [1, 3]).list.length = 2 := by decide +kernel
    have n2 : ((S05.newL [1, 3]).list.getD 0 default).weight = 1 := by decide +kernel
    have n3 : ((S05.newL [1, 3]).list.getD 1 default).weight = 3 := by decide +kernel
    generalize crashS s keep = c at *
    rw [← c4] at n1 n2 n3
    have m1 : c.out.length = 0 := by rw [c2]; rfl
    have m2 : c.jobs.length = 2 := by rw [c3]; rfl
    have m3 : (c.jobs.getD 0 default).length = 0 := by rw [c3]; rfl
    have m4 : (c.jobs.getD 1 default).length = 0 := by rw [c3]; rfl
    have m5 : c.dev.next = s.dev.next := by rw [c5]
    have m6 : c.dev.disk = s.dev.disk.crash keep := by rw [c5]
    have hsm := c1.small.v.k
    rw [m6] at hsm
    clear c2 c3 c4 c5
    repeat' first | (with_reducible first | refine nI1 ?_ | refine nI2 ?_ | refine nI3 ?_ | exact ⟨⟩ | refine Both.mk (fun _ => ?_) fun _ => ?_ | refine Both2.mk (fun _ => ?_) ?_) | ((with_reducible refine Need.mk ?_ ?_; show CEq _ _); exact CEq.refl _) | (with_reducible refine Need.mk ?_ ?_; (first | omega | exact CEq.refl _ | (dsimp only [rng]; omega) | (rw [Int.toNat_natCast]; omega) | (simp only [addN_eq]; omega))) | ((with_reducible fail_if_success first | constructor | show False); conv => whnf)
    refine CallVC.mk' (fun _ => right_ok K c d1) (fun _ => .cons ((.many fun j hj => by (rcases (show j = 0 ∨ j = 1 ∨ j = 2 ∨ j = 3 ∨ j = 4 ∨ j = 5 ∨ j = 6 ∨ j = 7 ∨ j = 8 by omega) with rfl | rfl | rfl | rfl | rfl | rfl | rfl | rfl | rfl <;> exact CEq.refl _))) .nil) ?_
    rw [decide_eq_true c1, m1, m2, n1]
    repeat' first | (with_reducible first | refine nI1 ?_ | refine nI2 ?_ | refine nI3 ?_ | exact ⟨⟩ | refine Both.mk (fun _ => ?_) fun _ => ?_ | refine Both2.mk (fun _ => ?_) ?_) | ((with_reducible refine Need.mk ?_ ?_; show CEq _ _); exact CEq.refl _) | (with_reducible refine Need.mk ?_ ?_; (first | omega | exact CEq.refl _ | (dsimp only [rng]; omega) | (rw [Int.toNat_natCast]; omega) | (simp only [addN_eq]; omega))) | ((with_reducible fail_if_success first | constructor | show False); conv => whnf)
    · rename_i z
      exact absurd z (by decide)
    rename_i z
    clear z
    rw [show (c.jobs.getD (Int.toNat 0) default).length = 0 from m3, show (c.jobs.getD (Int.toNat 1) default).length = 0 from m4]
    repeat' first | (with_reducible first | refine nI1 ?_ | refine nI2 ?_ | refine nI3 ?_ | exact ⟨⟩ | refine Both.mk (fun _ => ?_) fun _ => ?_ | refine Both2.mk (fun _ => ?_) ?_) | ((with_reducible refine Need.mk ?_ ?_; show CEq _ _); exact CEq.refl _) | (with_reducible refine Need.mk ?_ ?_; (first | omega | exact CEq.refl _ | (dsimp only [rng]; omega) | (rw [Int.toNat_natCast]; omega) | (simp only [addN_eq]; omega))) | ((with_reducible fail_if_success first | constructor | show False); conv => whnf)
    refine CallVC.mk' (fun _ => S03.crash_ok K.d.k s.dev.disk keep S.v.k (by omega)) (fun _ => .cons ((.many fun j hj => by (rcases (show j = 0 ∨ j = 1 by omega) with rfl | rfl <;> exact CEq.refl _))) (.cons (.one (CEq.refl _)) .nil)) ?_
    repeat' first | (with_reducible first | refine nI1 ?_ | refine nI2 ?_ | refine nI3 ?_ | exact ⟨⟩ | refine Both.mk (fun _ => ?_) fun _ => ?_ | refine Both2.mk (fun _ => ?_) ?_) | ((with_reducible refine Need.mk ?_ ?_; show CEq _ _); exact CEq.refl _) | (with_reducible refine Need.mk ?_ ?_; (first | omega | exact CEq.refl _ | (dsimp only [rng]; omega) | (rw [Int.toNat_natCast]; omega) | (simp only [addN_eq]; omega))) | ((with_reducible fail_if_success first | constructor | show False); conv => whnf)
    refine CallVC.mk' (fun _ => S03.same_ok R c.dev.disk (s.dev.disk.crash keep) c1.small.v.k hsm) (fun _ => .cons ((.many fun j hj => by (rcases (show j = 0 ∨ j = 1 by omega) with rfl | rfl <;> exact CEq.refl _))) (.cons ((.many fun j hj => by (rcases (show j = 0 ∨ j = 1 by omega) with rfl | rfl <;> exact CEq.refl _))) .nil)) ?_
    rw [decide_eq_true m6, show (c.lanes.list.getD (Int.toNat 0) default).weight = 1 from n2, show (c.lanes.list.getD (Int.toNat 1) default).weight = 3 from n3, m5, decide_eq_true (rfl : s.dev.next = s.dev.next)]
    repeat' first | (with_reducible first | refine nI1 ?_ | refine nI2 ?_ | refine nI3 ?_ | exact ⟨⟩ | refine Both.mk (fun _ => ?_) fun _ => ?_ | refine Both2.mk (fun _ => ?_) ?_) | ((with_reducible refine Need.mk ?_ ?_; show CEq _ _); exact CEq.refl _) | (with_reducible refine Need.mk ?_ ?_; (first | omega | exact CEq.refl _ | (dsimp only [rng]; omega) | (rw [Int.toNat_natCast]; omega) | (simp only [addN_eq]; omega))) | ((with_reducible fail_if_success first | constructor | show False); conv => whnf)
    refine CallVC.mk' (fun _ => awake_ok L) (fun _ => .nil) ?_
    repeat' first | (with_reducible first | refine nI1 ?_ | refine nI2 ?_ | refine nI3 ?_ | exact ⟨⟩ | refine Both.mk (fun _ => ?_) fun _ => ?_ | refine Both2.mk (fun _ => ?_) ?_) | ((with_reducible refine Need.mk ?_ ?_; show CEq _ _); exact CEq.refl _) | (with_reducible refine Need.mk ?_ ?_; (first | omega | exact CEq.refl _ | (dsimp only [rng]; omega) | (rw [Int.toNat_natCast]; omega) | (simp only [addN_eq]; omega))) | ((with_reducible fail_if_success first | constructor | show False); conv => whnf)
end
end Lk.S06
