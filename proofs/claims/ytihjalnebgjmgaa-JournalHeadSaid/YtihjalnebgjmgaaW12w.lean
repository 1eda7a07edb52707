/-
  Chapter 12: JournalIdle, JournalApart.
-/
import Derived.Test.YtihjalnebgjmgaaW12t
namespace Lk.S12
open Go Lk Lk.C Lk.S03

theorem runL_cache {l : List Op} : ∀ {d : Dsk}, right d → (runL d l).cache.length ≤ d.cache.length + l.length := by
  induction l with
  | nil => intro d _; exact Nat.le_refl _
  | cons o l ih =>
    intro d h
    have h2 := stepR_cache (o := o) h
    have h3 := ih (stepR_right (o := o) h)
    show (runL (stepR d o) l).cache.length ≤ d.cache.length + (l.length + 1)
    omega

/-- What Recover leaves, if the head stands. -/
theorem recover_run {d : Dsk} {n : Nat} (h : right d) (hn : d.secs.length = 35) (hc : d.cache.length ≤ 100) (h1 : 1 ≤ n) (h2 : n ≤ 16) (h0 : d.read 0 = headL n) :
    right (recover d) ∧ (recover d).secs.length = 35 ∧ ∀ i, i < 35 → (recover d).read i = if i = 0 then zs else if i = 2 * n + 1 then d.read 1 else if i = 2 * n + 2 then d.read 2 else d.read i := by
  have hu : usable d := ⟨h, by omega⟩
  have l1 := read_len (i := 1) h (by omega)
  have l2 := read_len (i := 2) h (by omega)
  have ho := rep_ok (n := n) (a := d.read 1) (b := d.read 2) h2 l1 l2
  have hlen : (halves (home n) (d.read 1) (d.read 2) ++ topL zs).length = 5 := rfl
  obtain ⟨a, b, c⟩ := runL_all (l := halves (home n) (d.read 1) (d.read 2) ++ topL zs) h (by rw [hn]; exact ho) (by omega)
  unfold recover
  rw [repair_head hu h1 h2 h0]
  exact ⟨a, b.trans hn, fun i hi => by rw [c i (by omega), rep_read]⟩

/-- Behind n operations of a plan, what Recover leaves of a page. -/
theorem idle {d : Dsk} {n k q : Nat} {data : List UInt8} (h : Calm d) (h0 : d.read 0 = zs) (h1 : 1 ≤ n) (h2 : n ≤ 16) (hd : data.length = 32) (hk : k ≤ 10) (q1 : 1 ≤ q) (q2 : q ≤ 16) :
    usable (runL d ((plan n data).take k)) ∧ usable (recover (runL d ((plan n data).take k))) ∧
      (getS (runL d ((plan n data).take k)) q = getS (recover (runL d ((plan n data).take k))) q ∨ (q = n ∧ 4 ≤ k ∧ k ≤ 6)) := by
  have hp := plan_ok0 h1 h2 hd
  obtain ⟨r1, n1, e1⟩ := runL_all h.r (by rw [h.n]; exact hp.take (k := k)) (by rw [h.c, List.length_take]; simp; omega)
  have hcl : (runL d ((plan n data).take k)).cache.length ≤ 100 := by
    have := runL_cache (l := (plan n data).take k) h.r
    rw [h.c, List.length_take, plan_len] at this
    simp at this; omega
  have hn : (runL d ((plan n data).take k)).secs.length = 35 := n1.trans h.n
  have k0 := e1 0 (by rw [h.n]; omega)
  have k1 := e1 1 (by rw [h.n]; omega)
  have k2 := e1 2 (by rw [h.n]; omega)
  have ka := e1 (2 * n + 1) (by rw [h.n]; omega)
  have kb := e1 (2 * n + 2) (by rw [h.n]; omega)
  rw [h0] at k0
  clear e1
  generalize runL d ((plan n data).take k) = e at *
  rw [plan_eq] at k0 k1 k2 ka kb
  have g1 : (0 = 2 * n + 1) = False := eq_false (by omega)
  have g2 : (0 = 2 * n + 2) = False := eq_false (by omega)
  have g3 : (1 = 2 * n + 1) = False := eq_false (by omega)
  have g4 : (1 = 2 * n + 2) = False := eq_false (by omega)
  have g5 : (2 = 2 * n + 1) = False := eq_false (by omega)
  have g6 : (2 = 2 * n + 2) = False := eq_false (by omega)
  have g7 : (2 * n + 1 = 0) = False := eq_false (by omega)
  have g8 : (2 * n + 1 = 1) = False := eq_false (by omega)
  have g9 : (2 * n + 1 = 2) = False := eq_false (by omega)
  have g10 : (2 * n + 2 = 0) = False := eq_false (by omega)
  have g11 : (2 * n + 2 = 1) = False := eq_false (by omega)
  have g12 : (2 * n + 2 = 2) = False := eq_false (by omega)
  have g13 : (2 * n + 2 = 2 * n + 1) = False := eq_false (by omega)
  have g14 : (2 * n + 1 = 2 * n + 2) = False := eq_false (by omega)
  have w1 : ((0 : Nat) = 1) = False := eq_false (by omega)
  have w2 : ((0 : Nat) = 2) = False := eq_false (by omega)
  have w3 : ((1 : Nat) = 2) = False := eq_false (by omega)
  have w4 : ((1 : Nat) = 0) = False := eq_false (by omega)
  have w5 : ((2 : Nat) = 0) = False := eq_false (by omega)
  have w6 : ((2 : Nat) = 1) = False := eq_false (by omega)
  have calm : e.read 0 = zs → usable e ∧ usable (recover e) ∧ (getS e q = getS (recover e) q ∨ (q = n ∧ 4 ≤ k ∧ k ≤ 6)) := fun hz => by
    rw [recover_zs hz]
    exact ⟨⟨r1, by omega⟩, ⟨r1, by omega⟩, .inl rfl⟩
  have head : e.read 0 = headL n → (q = n → (e.read (2 * n + 1) = e.read 1 ∧ e.read (2 * n + 2) = e.read 2) ∨ (4 ≤ k ∧ k ≤ 6)) → usable e ∧ usable (recover e) ∧ (getS e q = getS (recover e) q ∨ (q = n ∧ 4 ≤ k ∧ k ≤ 6)) := fun hz hh => by
    obtain ⟨r2, n2, e2⟩ := recover_run r1 hn hcl h1 h2 hz
    refine ⟨⟨r1, by omega⟩, ⟨r2, by omega⟩, ?_⟩
    unfold getS
    rw [e2 _ (by omega), e2 _ (by omega)]
    by_cases e : q = n
    · subst e
      rcases hh rfl with ⟨x, y⟩ | x
      · left
        rw [if_neg (by omega), if_pos rfl, if_neg (by omega), if_neg (by omega), if_pos rfl, x, y]
      · exact .inr ⟨rfl, x⟩
    · left
      rw [if_neg (by omega), if_neg (by omega), if_neg (by omega), if_neg (by omega), if_neg (by omega), if_neg (by omega)]
  rcases (show k = 0 ∨ k = 1 ∨ k = 2 ∨ k = 3 ∨ k = 4 ∨ k = 5 ∨ k = 6 ∨ k = 7 ∨ k = 8 ∨ k = 9 ∨ k = 10 by omega) with rfl | rfl | rfl | rfl | rfl | rfl | rfl | rfl | rfl | rfl | rfl <;>
    simp only [List.take_succ_cons, List.take_zero, List.take_nil, rdO_if, rdO_if0, rdO_if1, rdO_if2, rdO_sync, rdO_nil, g1, g2, g3, g4, g5, g6, g7, g8, g9, g10, g11, g12, g13, g14, w1, w2, w3, w4, w5, w6, if_false, if_true] at k0 k1 k2 ka kb <;>
    first
    | exact calm k0
    | exact head k0 fun _ => .inr (by omega)
    | exact head k0 fun _ => .inl ⟨ka.trans k1.symm, kb.trans k2.symm⟩

theorem page_of (x : UInt8) : ∃ q : Nat, 1 + (x.toNat : Int) % 16 = (q : Int) ∧ 1 ≤ q ∧ q ≤ 16 := ⟨1 + x.toNat % 16, by push_cast; rfl, by omega, by omega⟩

section
variable {P : Program} {F : Nat → Nat}

set_option maxHeartbeats 8000000 in
set_option maxRecDepth 100000 in
theorem journalIdle_law (K : K12 P F) (R : KRef P F) (hcalm : law12_calm_k P F) (hk : law12_JournalIdle_k P F) (pages : List (List UInt8)) (page : UInt8) (data : List UInt8) (hp : pages.length ≤ 9223372036854775807) (hd : data.length ≤ 9223372036854775807) :
    FnOk P (F 112) [.one (slL 1 strE pages), .one (.int .u8 page.toNat), .one (.str data)] [.one (.im (.bool true))] := by
  refine fnOk K.j.k.m hk ?_
  repeat' first
    | with_reducible refine NeedI.mk (fun h => h) ?_
    | with_reducible refine NeedI.mk (fun h => h.2) ?_
    | with_reducible refine NeedI.mk (fun h => h.1) ?_
    | with_reducible exact Done.mk
    | with_reducible refine Both.mk (fun _ => ?_) (fun _ => ?_)
    | with_reducible refine Both2.mk (fun _ => ?_) ?_
    | with_reducible refine Need.mk (by first | omega | with_reducible exact CEq.refl _ | (dsimp only; omega) | (dsimp only [rng]; omega) | (simp only [decide_eq_true_eq, decide_eq_false_iff_not, Bool.or_eq_true, Bool.and_eq_true, Bool.or_eq_false_iff, Int.toNat_natCast, addN_eq, cond_false, cond_true, rng] at *; omega) | exact ⟨rfl, rfl⟩) ?_
    | ((with_reducible refine Need.mk ?_ ?_); exact CEq.refl _)
    | (fail_if_success with_reducible refine LoopVC.mk ?_
       fail_if_success with_reducible refine Need.mk ?_ ?_
       fail_if_success with_reducible refine CallVC.mk ?_
       fail_if_success with_reducible refine LoopEnd.mk ?_
       fail_if_success with_reducible refine Out.mk ?_
       fail_if_success with_reducible show False
       fail_if_success with_reducible refine NeedI.mk ?_ ?_
       conv => whnf)
  refine CallVC.mk' (fun _ => calm_ok K.j.k hcalm pages hp) (fun _ => .cons (.one (CEq.refl _)) .nil) ?_
  have C := calmD_calm (pages := pages)
  have Z := calmD_0 (pages := pages)
  generalize calmD pages = was at *
  have hwn := C.n
  repeat' first
    | with_reducible refine NeedI.mk (fun h => h) ?_
    | with_reducible refine NeedI.mk (fun h => h.2) ?_
    | with_reducible refine NeedI.mk (fun h => h.1) ?_
    | with_reducible exact Done.mk
    | with_reducible refine Both.mk (fun _ => ?_) (fun _ => ?_)
    | with_reducible refine Both2.mk (fun _ => ?_) ?_
    | with_reducible refine Need.mk (by first | omega | with_reducible exact CEq.refl _ | (dsimp only; omega) | (dsimp only [rng]; omega) | (simp only [decide_eq_true_eq, decide_eq_false_iff_not, Bool.or_eq_true, Bool.and_eq_true, Bool.or_eq_false_iff, Int.toNat_natCast, addN_eq, cond_false, cond_true, rng] at *; omega) | exact ⟨rfl, rfl⟩) ?_
    | ((with_reducible refine Need.mk ?_ ?_); exact CEq.refl _)
    | (fail_if_success with_reducible refine LoopVC.mk ?_
       fail_if_success with_reducible refine Need.mk ?_ ?_
       fail_if_success with_reducible refine CallVC.mk ?_
       fail_if_success with_reducible refine LoopEnd.mk ?_
       fail_if_success with_reducible refine Out.mk ?_
       fail_if_success with_reducible show False
       fail_if_success with_reducible refine NeedI.mk ?_ ?_
       conv => whnf)
  · rename_i h
    rw [hwn] at h
    have h : data.length ≠ 32 := by simp at h; omega
    refine CallVC.mk' (fun _ => awake_ok K) (fun _ => .nil) ?_
    repeat' first
      | with_reducible refine NeedI.mk (fun h => h) ?_
      | with_reducible refine NeedI.mk (fun h => h.2) ?_
      | with_reducible refine NeedI.mk (fun h => h.1) ?_
      | with_reducible exact Done.mk
      | with_reducible refine Both.mk (fun _ => ?_) (fun _ => ?_)
      | with_reducible refine Both2.mk (fun _ => ?_) ?_
      | with_reducible refine Need.mk (by first | omega | with_reducible exact CEq.refl _ | (dsimp only; omega) | (dsimp only [rng]; omega) | (simp only [decide_eq_true_eq, decide_eq_false_iff_not, Bool.or_eq_true, Bool.and_eq_true, Bool.or_eq_false_iff, Int.toNat_natCast, addN_eq, cond_false, cond_true, rng] at *; omega) | exact ⟨rfl, rfl⟩) ?_
      | ((with_reducible refine Need.mk ?_ ?_); exact CEq.refl _)
      | (fail_if_success with_reducible refine LoopVC.mk ?_
         fail_if_success with_reducible refine Need.mk ?_ ?_
         fail_if_success with_reducible refine CallVC.mk ?_
         fail_if_success with_reducible refine LoopEnd.mk ?_
         fail_if_success with_reducible refine Out.mk ?_
         fail_if_success with_reducible show False
         fail_if_success with_reducible refine NeedI.mk ?_ ?_
         conv => whnf)
    refine Need.mk (eB (by simp; omega)) ?_
    repeat' first
      | with_reducible refine NeedI.mk (fun h => h) ?_
      | with_reducible refine NeedI.mk (fun h => h.2) ?_
      | with_reducible refine NeedI.mk (fun h => h.1) ?_
      | with_reducible exact Done.mk
      | with_reducible refine Both.mk (fun _ => ?_) (fun _ => ?_)
      | with_reducible refine Both2.mk (fun _ => ?_) ?_
      | with_reducible refine Need.mk (by first | omega | with_reducible exact CEq.refl _ | (dsimp only; omega) | (dsimp only [rng]; omega) | (simp only [decide_eq_true_eq, decide_eq_false_iff_not, Bool.or_eq_true, Bool.and_eq_true, Bool.or_eq_false_iff, Int.toNat_natCast, addN_eq, cond_false, cond_true, rng] at *; omega) | exact ⟨rfl, rfl⟩) ?_
      | ((with_reducible refine Need.mk ?_ ?_); exact CEq.refl _)
      | (fail_if_success with_reducible refine LoopVC.mk ?_
         fail_if_success with_reducible refine Need.mk ?_ ?_
         fail_if_success with_reducible refine CallVC.mk ?_
         fail_if_success with_reducible refine LoopEnd.mk ?_
         fail_if_success with_reducible refine Out.mk ?_
         fail_if_success with_reducible show False
         fail_if_success with_reducible refine NeedI.mk ?_ ?_
         conv => whnf)
  · rename_i h
    have h : data.length = 32 := by simp at h; omega
    obtain ⟨q, hq, hq1, hq2⟩ := page_of page
    rw [hq]
    have hg : planOk was q data := ⟨C.usable, by unfold valid; omega, h⟩
    refine CallVC.mk' (fun _ => plan_ok K.j was q data C.small (by omega)) (fun _ => .cons ((.many fun j hj => by (rcases (show j = 0 ∨ j = 1 by omega) with rfl | rfl <;> exact CEq.refl _))) (.cons (.one (CEq.refl _)) (.cons (.one (CEq.refl _)) .nil))) ?_
    rw [show planL was q data = plan q data from if_pos hg, show planE was q data = 0 from if_pos hg]
    repeat' first
      | with_reducible refine NeedI.mk (fun h => h) ?_
      | with_reducible refine NeedI.mk (fun h => h.2) ?_
      | with_reducible refine NeedI.mk (fun h => h.1) ?_
      | with_reducible exact Done.mk
      | with_reducible refine Both.mk (fun _ => ?_) (fun _ => ?_)
      | with_reducible refine Both2.mk (fun _ => ?_) ?_
      | with_reducible refine Need.mk (by first | omega | with_reducible exact CEq.refl _ | (dsimp only; omega) | (dsimp only [rng]; omega) | (simp only [decide_eq_true_eq, decide_eq_false_iff_not, Bool.or_eq_true, Bool.and_eq_true, Bool.or_eq_false_iff, Int.toNat_natCast, addN_eq, cond_false, cond_true, rng] at *; omega) | exact ⟨rfl, rfl⟩) ?_
      | ((with_reducible refine Need.mk ?_ ?_); exact CEq.refl _)
      | (fail_if_success with_reducible refine LoopVC.mk ?_
         fail_if_success with_reducible refine Need.mk ?_ ?_
         fail_if_success with_reducible refine CallVC.mk ?_
         fail_if_success with_reducible refine LoopEnd.mk ?_
         fail_if_success with_reducible refine Out.mk ?_
         fail_if_success with_reducible show False
         fail_if_success with_reducible refine NeedI.mk ?_ ?_
         conv => whnf)
    refine CallVC.mk' (fun _ => repair_ok K.j was C.small) (fun _ => .cons ((.many fun j hj => by (rcases (show j = 0 ∨ j = 1 by omega) with rfl | rfl <;> exact CEq.refl _))) .nil) ?_
    rw [repair_zs Z]
    repeat' first
      | with_reducible refine NeedI.mk (fun h => h) ?_
      | with_reducible refine NeedI.mk (fun h => h.2) ?_
      | with_reducible refine NeedI.mk (fun h => h.1) ?_
      | with_reducible exact Done.mk
      | with_reducible refine Both.mk (fun _ => ?_) (fun _ => ?_)
      | with_reducible refine Both2.mk (fun _ => ?_) ?_
      | with_reducible refine Need.mk (by first | omega | with_reducible exact CEq.refl _ | (dsimp only; omega) | (dsimp only [rng]; omega) | (simp only [decide_eq_true_eq, decide_eq_false_iff_not, Bool.or_eq_true, Bool.and_eq_true, Bool.or_eq_false_iff, Int.toNat_natCast, addN_eq, cond_false, cond_true, rng] at *; omega) | exact ⟨rfl, rfl⟩) ?_
      | ((with_reducible refine Need.mk ?_ ?_); exact CEq.refl _)
      | (fail_if_success with_reducible refine LoopVC.mk ?_
         fail_if_success with_reducible refine Need.mk ?_ ?_
         fail_if_success with_reducible refine CallVC.mk ?_
         fail_if_success with_reducible refine LoopEnd.mk ?_
         fail_if_success with_reducible refine Out.mk ?_
         fail_if_success with_reducible show False
         fail_if_success with_reducible refine NeedI.mk ?_ ?_
         conv => whnf)
    refine CallVC.mk' (fun _ => recover_ok K.j was C.small) (fun _ => .cons ((.many fun j hj => by (rcases (show j = 0 ∨ j = 1 by omega) with rfl | rfl <;> exact CEq.refl _))) .nil) ?_
    rw [recover_zs Z]
    repeat' first
      | with_reducible refine NeedI.mk (fun h => h) ?_
      | with_reducible refine NeedI.mk (fun h => h.2) ?_
      | with_reducible refine NeedI.mk (fun h => h.1) ?_
      | with_reducible exact Done.mk
      | with_reducible refine Both.mk (fun _ => ?_) (fun _ => ?_)
      | with_reducible refine Both2.mk (fun _ => ?_) ?_
      | with_reducible refine Need.mk (by first | omega | with_reducible exact CEq.refl _ | (dsimp only; omega) | (dsimp only [rng]; omega) | (simp only [decide_eq_true_eq, decide_eq_false_iff_not, Bool.or_eq_true, Bool.and_eq_true, Bool.or_eq_false_iff, Int.toNat_natCast, addN_eq, cond_false, cond_true, rng] at *; omega) | exact ⟨rfl, rfl⟩) ?_
      | ((with_reducible refine Need.mk ?_ ?_); exact CEq.refl _)
      | (fail_if_success with_reducible refine LoopVC.mk ?_
         fail_if_success with_reducible refine Need.mk ?_ ?_
         fail_if_success with_reducible refine CallVC.mk ?_
         fail_if_success with_reducible refine LoopEnd.mk ?_
         fail_if_success with_reducible refine Out.mk ?_
         fail_if_success with_reducible show False
         fail_if_success with_reducible refine NeedI.mk ?_ ?_
         conv => whnf)
    refine CallVC.mk' (fun _ => same_ok R was was C.small C.small) (fun _ => .cons ((.many fun j hj => by (rcases (show j = 0 ∨ j = 1 by omega) with rfl | rfl <;> exact CEq.refl _))) (.cons ((.many fun j hj => by (rcases (show j = 0 ∨ j = 1 by omega) with rfl | rfl <;> exact CEq.refl _))) .nil)) ?_
    repeat' first
      | with_reducible refine NeedI.mk (fun h => h) ?_
      | with_reducible refine NeedI.mk (fun h => h.2) ?_
      | with_reducible refine NeedI.mk (fun h => h.1) ?_
      | with_reducible exact Done.mk
      | with_reducible refine Both.mk (fun _ => ?_) (fun _ => ?_)
      | with_reducible refine Both2.mk (fun _ => ?_) ?_
      | with_reducible refine Need.mk (by first | omega | with_reducible exact CEq.refl _ | (dsimp only; omega) | (dsimp only [rng]; omega) | (simp only [decide_eq_true_eq, decide_eq_false_iff_not, Bool.or_eq_true, Bool.and_eq_true, Bool.or_eq_false_iff, Int.toNat_natCast, addN_eq, cond_false, cond_true, rng] at *; omega) | exact ⟨rfl, rfl⟩) ?_
      | ((with_reducible refine Need.mk ?_ ?_); exact CEq.refl _)
      | (fail_if_success with_reducible refine LoopVC.mk ?_
         fail_if_success with_reducible refine Need.mk ?_ ?_
         fail_if_success with_reducible refine CallVC.mk ?_
         fail_if_success with_reducible refine LoopEnd.mk ?_
         fail_if_success with_reducible refine Out.mk ?_
         fail_if_success with_reducible show False
         fail_if_success with_reducible refine NeedI.mk ?_ ?_
         conv => whnf)
    · rename_i h2; exfalso; rw [plan_len] at h2; simp at h2
    · skip
      have pdata : ∀ o ∈ plan q data, o.w.data.length ≤ 1000000 := by
        have := planL_data (d := was) (p := q) (data := data)
        rwa [show planL was q data = plan q data from if_pos hg] at this
      have hidle := fun k (hk : k ≤ 10) z (z1 : 1 ≤ z) (z2 : z ≤ 16) => idle (n := q) (k := k) (q := z) C Z hq1 hq2 h hk z1 z2
      have hrun : ∀ k : Nat, run was (plan q data) k = runL was ((plan q data).take k) := fun k => by unfold run; rw [Int.toNat_natCast]
      have hpl : (plan q data).length ≤ 1000000 := by rw [plan_len]; decide
      generalize plan q data = pl at *
      refine LoopVC.inv (fun i : Nat => i ≤ 11) (fun i => stL [(7, .va 7 0 0), (8, .c (.int .i64 q)), (9, .c (slL 3 opE pl)), (66, .c (.int .i64 i))]
        [(7, vE [.c (slL 1 strE was.secs), .c (slL 2 wrE was.cache)])]) (fun i => 11 - i) 0 (Nat.zero_le _) ?_ ?_
      · (refine Le.of ?_ ?_ <;> repeat' first | exact trivial | exact CEq.refl _ | exact rfl | exact cI (by push_cast; first | rfl | omega) | exact SubE.dat fun _ _ _ _ => CEq.refl _ | refine SubE.var2 ?_ ?_ | refine SubE.var1 ?_ | refine SubE.var3 ?_ ?_ ?_ | refine SubE.var4 ?_ ?_ ?_ ?_ | refine SubE.var5 ?_ ?_ ?_ ?_ ?_ | refine Exists.intro _ (And.intro rfl ?_) | refine And.intro ?_ ?_)
      rintro Q hQ i hi
      repeat' first
        | with_reducible refine NeedI.mk (fun h => h) ?_
        | with_reducible refine NeedI.mk (fun h => h.2) ?_
        | with_reducible refine NeedI.mk (fun h => h.1) ?_
        | with_reducible exact Done.mk
        | with_reducible refine Both.mk (fun _ => ?_) (fun _ => ?_)
        | with_reducible refine Both2.mk (fun _ => ?_) ?_
        | with_reducible refine Need.mk (by first | omega | with_reducible exact CEq.refl _ | (dsimp only; omega) | (dsimp only [rng]; omega) | (simp only [decide_eq_true_eq, decide_eq_false_iff_not, Bool.or_eq_true, Bool.and_eq_true, Bool.or_eq_false_iff, Int.toNat_natCast, addN_eq, cond_false, cond_true, rng] at *; omega) | exact ⟨rfl, rfl⟩) ?_
        | ((with_reducible refine Need.mk ?_ ?_); exact CEq.refl _)
        | (fail_if_success with_reducible refine LoopVC.mk ?_
           fail_if_success with_reducible refine Need.mk ?_ ?_
           fail_if_success with_reducible refine CallVC.mk ?_
           fail_if_success with_reducible refine LoopEnd.mk ?_
           fail_if_success with_reducible refine Out.mk ?_
           fail_if_success with_reducible show False
           fail_if_success with_reducible refine NeedI.mk ?_ ?_
           conv => whnf)
      · rename_i h3
        have h3 : (i : Int) < 11 := of_decide_eq_true h3
        have hu := (hidle i (by omega) 1 (by omega) (by omega)).1
        have hu2 := (hidle i (by omega) 1 (by omega) (by omega)).2.1
        have hid := fun z z1 z2 => (hidle i (by omega) z z1 z2).2.2
        refine CallVC.mk' (fun _ => run_ok K.j.k K.j.run was pl i C.small hpl pdata) (fun _ => .cons ((.many fun j hj => by (rcases (show j = 0 ∨ j = 1 by omega) with rfl | rfl <;> exact CEq.refl _))) (.cons (.one (CEq.refl _)) (.cons (.one (CEq.refl _)) .nil))) ?_
        rw [hrun]
        generalize runL was (pl.take i) = d at *
        repeat' first
          | with_reducible refine NeedI.mk (fun h => h) ?_
          | with_reducible refine NeedI.mk (fun h => h.2) ?_
          | with_reducible refine NeedI.mk (fun h => h.1) ?_
          | with_reducible exact Done.mk
          | with_reducible refine Both.mk (fun _ => ?_) (fun _ => ?_)
          | with_reducible refine Both2.mk (fun _ => ?_) ?_
          | with_reducible refine Need.mk (by first | omega | with_reducible exact CEq.refl _ | (dsimp only; omega) | (dsimp only [rng]; omega) | (simp only [decide_eq_true_eq, decide_eq_false_iff_not, Bool.or_eq_true, Bool.and_eq_true, Bool.or_eq_false_iff, Int.toNat_natCast, addN_eq, cond_false, cond_true, rng] at *; omega) | exact ⟨rfl, rfl⟩) ?_
          | ((with_reducible refine Need.mk ?_ ?_); exact CEq.refl _)
          | (fail_if_success with_reducible refine LoopVC.mk ?_
             fail_if_success with_reducible refine Need.mk ?_ ?_
             fail_if_success with_reducible refine CallVC.mk ?_
             fail_if_success with_reducible refine LoopEnd.mk ?_
             fail_if_success with_reducible refine Out.mk ?_
             fail_if_success with_reducible show False
             fail_if_success with_reducible refine NeedI.mk ?_ ?_
             conv => whnf)
        refine LoopVC.inv (fun k : Nat => k ≤ 16) (fun k => stL [(7, .va 7 0 0), (8, .c (.int .i64 q)), (9, .c (slL 3 opE pl)), (11, .c (.int .i64 i)), (12, .va 12 0 0), (13, .c (.int .i64 (k + 1))), (66, .c (.int .i64 i))]
          [(7, vE [.c (slL 1 strE was.secs), .c (slL 2 wrE was.cache)]), (12, vE [.c (slL 1 strE d.secs), .c (slL 2 wrE d.cache)])]) (fun k => 16 - k) 0 (Nat.zero_le _) ?_ ?_
        · (refine Le.of ?_ ?_ <;> repeat' first | exact trivial | exact CEq.refl _ | exact rfl | exact cI (by push_cast; first | rfl | omega) | exact SubE.dat fun _ _ _ _ => CEq.refl _ | refine SubE.var2 ?_ ?_ | refine SubE.var1 ?_ | refine SubE.var3 ?_ ?_ ?_ | refine SubE.var4 ?_ ?_ ?_ ?_ | refine SubE.var5 ?_ ?_ ?_ ?_ ?_ | refine Exists.intro _ (And.intro rfl ?_) | refine And.intro ?_ ?_)
        rintro Q2 hQ2 k hk2
        repeat' first
          | with_reducible refine NeedI.mk (fun h => h) ?_
          | with_reducible refine NeedI.mk (fun h => h.2) ?_
          | with_reducible refine NeedI.mk (fun h => h.1) ?_
          | with_reducible exact Done.mk
          | with_reducible refine Both.mk (fun _ => ?_) (fun _ => ?_)
          | with_reducible refine Both2.mk (fun _ => ?_) ?_
          | with_reducible refine Need.mk (by first | omega | with_reducible exact CEq.refl _ | (dsimp only; omega) | (dsimp only [rng]; omega) | (simp only [decide_eq_true_eq, decide_eq_false_iff_not, Bool.or_eq_true, Bool.and_eq_true, Bool.or_eq_false_iff, Int.toNat_natCast, addN_eq, cond_false, cond_true, rng] at *; omega) | exact ⟨rfl, rfl⟩) ?_
          | ((with_reducible refine Need.mk ?_ ?_); exact CEq.refl _)
          | (fail_if_success with_reducible refine LoopVC.mk ?_
             fail_if_success with_reducible refine Need.mk ?_ ?_
             fail_if_success with_reducible refine CallVC.mk ?_
             fail_if_success with_reducible refine LoopEnd.mk ?_
             fail_if_success with_reducible refine Out.mk ?_
             fail_if_success with_reducible show False
             fail_if_success with_reducible refine NeedI.mk ?_ ?_
             conv => whnf)
        · rename_i h4
          have h4 : ((k : Int) + 1) ≤ 16 := of_decide_eq_true h4
          have hid2 := hid (k + 1) (by omega) (by omega)
          refine CallVC.mk' (fun _ => get_ok K.j d ((k + 1 : Nat) : Int) hu.1.small) (fun _ => .cons ((.many fun j hj => by (rcases (show j = 0 ∨ j = 1 by omega) with rfl | rfl <;> exact CEq.refl _))) (.cons (.one (eI (by push_cast; rfl))) .nil)) ?_
          rw [show get d ((k + 1 : Nat) : Int) = (getS d (k + 1), 0) from if_pos ⟨hu, by unfold valid; omega⟩]
          repeat' first
            | with_reducible refine NeedI.mk (fun h => h) ?_
            | with_reducible refine NeedI.mk (fun h => h.2) ?_
            | with_reducible refine NeedI.mk (fun h => h.1) ?_
            | with_reducible exact Done.mk
            | with_reducible refine Both.mk (fun _ => ?_) (fun _ => ?_)
            | with_reducible refine Both2.mk (fun _ => ?_) ?_
            | with_reducible refine Need.mk (by first | omega | with_reducible exact CEq.refl _ | (dsimp only; omega) | (dsimp only [rng]; omega) | (simp only [decide_eq_true_eq, decide_eq_false_iff_not, Bool.or_eq_true, Bool.and_eq_true, Bool.or_eq_false_iff, Int.toNat_natCast, addN_eq, cond_false, cond_true, rng] at *; omega) | exact ⟨rfl, rfl⟩) ?_
            | ((with_reducible refine Need.mk ?_ ?_); exact CEq.refl _)
            | (fail_if_success with_reducible refine LoopVC.mk ?_
               fail_if_success with_reducible refine Need.mk ?_ ?_
               fail_if_success with_reducible refine CallVC.mk ?_
               fail_if_success with_reducible refine LoopEnd.mk ?_
               fail_if_success with_reducible refine Out.mk ?_
               fail_if_success with_reducible show False
               fail_if_success with_reducible refine NeedI.mk ?_ ?_
               conv => whnf)
          refine CallVC.mk' (fun _ => recover_ok K.j d hu.1.small) (fun _ => .cons ((.many fun j hj => by (rcases (show j = 0 ∨ j = 1 by omega) with rfl | rfl <;> exact CEq.refl _))) .nil) ?_
          generalize recover d = e at *
          repeat' first
            | with_reducible refine NeedI.mk (fun h => h) ?_
            | with_reducible refine NeedI.mk (fun h => h.2) ?_
            | with_reducible refine NeedI.mk (fun h => h.1) ?_
            | with_reducible exact Done.mk
            | with_reducible refine Both.mk (fun _ => ?_) (fun _ => ?_)
            | with_reducible refine Both2.mk (fun _ => ?_) ?_
            | with_reducible refine Need.mk (by first | omega | with_reducible exact CEq.refl _ | (dsimp only; omega) | (dsimp only [rng]; omega) | (simp only [decide_eq_true_eq, decide_eq_false_iff_not, Bool.or_eq_true, Bool.and_eq_true, Bool.or_eq_false_iff, Int.toNat_natCast, addN_eq, cond_false, cond_true, rng] at *; omega) | exact ⟨rfl, rfl⟩) ?_
            | ((with_reducible refine Need.mk ?_ ?_); exact CEq.refl _)
            | (fail_if_success with_reducible refine LoopVC.mk ?_
               fail_if_success with_reducible refine Need.mk ?_ ?_
               fail_if_success with_reducible refine CallVC.mk ?_
               fail_if_success with_reducible refine LoopEnd.mk ?_
               fail_if_success with_reducible refine Out.mk ?_
               fail_if_success with_reducible show False
               fail_if_success with_reducible refine NeedI.mk ?_ ?_
               conv => whnf)
          refine CallVC.mk' (fun _ => get_ok K.j e ((k + 1 : Nat) : Int) hu2.1.small) (fun _ => .cons ((.many fun j hj => by (rcases (show j = 0 ∨ j = 1 by omega) with rfl | rfl <;> exact CEq.refl _))) (.cons (.one (eI (by push_cast; rfl))) .nil)) ?_
          rw [show get e ((k + 1 : Nat) : Int) = (getS e (k + 1), 0) from if_pos ⟨hu2, by unfold valid; omega⟩]
          repeat' first
            | with_reducible refine NeedI.mk (fun h => h) ?_
            | with_reducible refine NeedI.mk (fun h => h.2) ?_
            | with_reducible refine NeedI.mk (fun h => h.1) ?_
            | with_reducible exact Done.mk
            | with_reducible refine Both.mk (fun _ => ?_) (fun _ => ?_)
            | with_reducible refine Both2.mk (fun _ => ?_) ?_
            | with_reducible refine Need.mk (by first | omega | with_reducible exact CEq.refl _ | (dsimp only; omega) | (dsimp only [rng]; omega) | (simp only [decide_eq_true_eq, decide_eq_false_iff_not, Bool.or_eq_true, Bool.and_eq_true, Bool.or_eq_false_iff, Int.toNat_natCast, addN_eq, cond_false, cond_true, rng] at *; omega) | exact ⟨rfl, rfl⟩) ?_
            | ((with_reducible refine Need.mk ?_ ?_); exact CEq.refl _)
            | (fail_if_success with_reducible refine LoopVC.mk ?_
               fail_if_success with_reducible refine Need.mk ?_ ?_
               fail_if_success with_reducible refine CallVC.mk ?_
               fail_if_success with_reducible refine LoopEnd.mk ?_
               fail_if_success with_reducible refine Out.mk ?_
               fail_if_success with_reducible show False
               fail_if_success with_reducible refine NeedI.mk ?_ ?_
               conv => whnf)
          · rename_i h5
            exfalso
            rcases hid2 with x | ⟨x, y, z⟩
            · rw [x] at h5; simp at h5
            · simp at h5; omega
          · skip
            refine LoopEnd.mk ⟨k + 1, by omega, by omega, ?_⟩
            (refine Le.of ?_ ?_ <;> repeat' first | exact trivial | exact CEq.refl _ | exact rfl | exact cI (by push_cast; first | rfl | omega) | exact SubE.dat fun _ _ _ _ => CEq.refl _ | refine SubE.var2 ?_ ?_ | refine SubE.var1 ?_ | refine SubE.var3 ?_ ?_ ?_ | refine SubE.var4 ?_ ?_ ?_ ?_ | refine SubE.var5 ?_ ?_ ?_ ?_ ?_ | refine Exists.intro _ (And.intro rfl ?_) | refine And.intro ?_ ?_)
        · skip
          refine Out.mk (hQ2 _ _ ?_)
          repeat' first
            | with_reducible refine NeedI.mk (fun h => h) ?_
            | with_reducible refine NeedI.mk (fun h => h.2) ?_
            | with_reducible refine NeedI.mk (fun h => h.1) ?_
            | with_reducible exact Done.mk
            | with_reducible refine Both.mk (fun _ => ?_) (fun _ => ?_)
            | with_reducible refine Both2.mk (fun _ => ?_) ?_
            | with_reducible refine Need.mk (by first | omega | with_reducible exact CEq.refl _ | (dsimp only; omega) | (dsimp only [rng]; omega) | (simp only [decide_eq_true_eq, decide_eq_false_iff_not, Bool.or_eq_true, Bool.and_eq_true, Bool.or_eq_false_iff, Int.toNat_natCast, addN_eq, cond_false, cond_true, rng] at *; omega) | exact ⟨rfl, rfl⟩) ?_
            | ((with_reducible refine Need.mk ?_ ?_); exact CEq.refl _)
            | (fail_if_success with_reducible refine LoopVC.mk ?_
               fail_if_success with_reducible refine Need.mk ?_ ?_
               fail_if_success with_reducible refine CallVC.mk ?_
               fail_if_success with_reducible refine LoopEnd.mk ?_
               fail_if_success with_reducible refine Out.mk ?_
               fail_if_success with_reducible show False
               fail_if_success with_reducible refine NeedI.mk ?_ ?_
               conv => whnf)
          refine LoopEnd.mk ⟨i + 1, by omega, by omega, ?_⟩
          (refine Le.of ?_ ?_ <;> repeat' first | exact trivial | exact CEq.refl _ | exact rfl | exact cI (by push_cast; first | rfl | omega) | exact SubE.dat fun _ _ _ _ => CEq.refl _ | refine SubE.var2 ?_ ?_ | refine SubE.var1 ?_ | refine SubE.var3 ?_ ?_ ?_ | refine SubE.var4 ?_ ?_ ?_ ?_ | refine SubE.var5 ?_ ?_ ?_ ?_ ?_ | refine Exists.intro _ (And.intro rfl ?_) | refine And.intro ?_ ?_)
      · skip
        refine Out.mk (hQ _ _ ?_)
        repeat' first
          | with_reducible refine NeedI.mk (fun h => h) ?_
          | with_reducible refine NeedI.mk (fun h => h.2) ?_
          | with_reducible refine NeedI.mk (fun h => h.1) ?_
          | with_reducible exact Done.mk
          | with_reducible refine Both.mk (fun _ => ?_) (fun _ => ?_)
          | with_reducible refine Both2.mk (fun _ => ?_) ?_
          | with_reducible refine Need.mk (by first | omega | with_reducible exact CEq.refl _ | (dsimp only; omega) | (dsimp only [rng]; omega) | (simp only [decide_eq_true_eq, decide_eq_false_iff_not, Bool.or_eq_true, Bool.and_eq_true, Bool.or_eq_false_iff, Int.toNat_natCast, addN_eq, cond_false, cond_true, rng] at *; omega) | exact ⟨rfl, rfl⟩) ?_
          | ((with_reducible refine Need.mk ?_ ?_); exact CEq.refl _)
          | (fail_if_success with_reducible refine LoopVC.mk ?_
             fail_if_success with_reducible refine Need.mk ?_ ?_
             fail_if_success with_reducible refine CallVC.mk ?_
             fail_if_success with_reducible refine LoopEnd.mk ?_
             fail_if_success with_reducible refine Out.mk ?_
             fail_if_success with_reducible show False
             fail_if_success with_reducible refine NeedI.mk ?_ ?_
             conv => whnf)
        refine CallVC.mk' (fun _ => awake_ok K) (fun _ => .nil) ?_
        repeat' first
          | with_reducible refine NeedI.mk (fun h => h) ?_
          | with_reducible refine NeedI.mk (fun h => h.2) ?_
          | with_reducible refine NeedI.mk (fun h => h.1) ?_
          | with_reducible exact Done.mk
          | with_reducible refine Both.mk (fun _ => ?_) (fun _ => ?_)
          | with_reducible refine Both2.mk (fun _ => ?_) ?_
          | with_reducible refine Need.mk (by first | omega | with_reducible exact CEq.refl _ | (dsimp only; omega) | (dsimp only [rng]; omega) | (simp only [decide_eq_true_eq, decide_eq_false_iff_not, Bool.or_eq_true, Bool.and_eq_true, Bool.or_eq_false_iff, Int.toNat_natCast, addN_eq, cond_false, cond_true, rng] at *; omega) | exact ⟨rfl, rfl⟩) ?_
          | ((with_reducible refine Need.mk ?_ ?_); exact CEq.refl _)
          | (fail_if_success with_reducible refine LoopVC.mk ?_
             fail_if_success with_reducible refine Need.mk ?_ ?_
             fail_if_success with_reducible refine CallVC.mk ?_
             fail_if_success with_reducible refine LoopEnd.mk ?_
             fail_if_success with_reducible refine Out.mk ?_
             fail_if_success with_reducible show False
             fail_if_success with_reducible refine NeedI.mk ?_ ?_
             conv => whnf)
end
end Lk.S12
