/-
  The abstract machine, part 14: calls.
-/
import Derived.Test.YtbfhhfbblnkdhaaLk13
namespace Lk
open Go Go.RowKit
section
variable {P : Program} {O : Nat → Prop} {W : World} {N : Nat} {fr : Nat → AV} {hp : Nat → Option Ent} {gc : Nat → Nat} {a : Act} {w : World} {be : Nm} {o : Oper} {d : Nat}

theorem own_lt (h : Rel O W N ⟨fr, hp, gc⟩ a w be) {b : Nat} (hb : own O be ⟨fr, hp, gc⟩ b) : b < w.heap.size := by
  rcases hb with hb | ⟨s, e, _, _, h3⟩
  · exact Nat.lt_of_lt_of_le (h.outer b hb) h.below.size
  · exact h.names _ _ _ h3

/-- An argument. -/
theorem argM_run {v : AV} {L : PV × List (Nat × Ent) → Prop} (h : (argM hp gc v).run L) :
    ∃ p hs, L (p, hs) ∧ ∀ {O W N fr a w be}, Fz O W N fr gc a w be hp (putH hs hp) ∧ (Rel O W N ⟨fr, hp, gc⟩ a w be → ∀ u, RA be gc (own O be ⟨fr, hp, gc⟩) w v u → RP (own O be ⟨fr, putH hs hp, gc⟩) w p u) := by
  unfold argM at h
  split at h
  · rename_i n f
    rw [M.run_bind] at h
    obtain ⟨g, hs, h, p⟩ := frzN_run n 0 f hp _ h
    refine ⟨_, _, h, fun {O W N fr a w be} => ?_⟩
    obtain ⟨f1, r1⟩ := p (O := O) (W := W) (N := N) (fr := fr) (a := a) (w := w) (be := be)
    refine ⟨f1, fun r u hu => ?_⟩
    obtain ⟨cs, rfl, hn, hall⟩ := hu
    refine ⟨cs, rfl, hn, fun j hj => ?_⟩
    obtain ⟨u', hu', h1, hr⟩ := hall j hj
    exact ⟨u', hu', h1, r1 r j hj u' (by rw [Nat.zero_add]; exact hr)⟩
  · rw [M.run_bind] at h
    obtain ⟨x, hs, h, p⟩ := frzC_run h
    refine ⟨_, _, h, fun {O W N fr a w be} => ?_⟩
    obtain ⟨f1, r1⟩ := p (O := O) (W := W) (N := N) (fr := fr) (a := a) (w := w) (be := be)
    exact ⟨f1, fun r u hu => r1 r u hu⟩

theorem RP.keep {Q Q' : Nat → Prop} {w' : World} {be' : Nm} {ga ga' : Nat → Nat} (k : Keeps be ga Q w be' ga' Q' w') {p : PV} {u : Value} (h : RP Q w p u) : RP Q' w' p u := by
  cases p with
  | one x => exact k.rc h
  | many n f =>
    obtain ⟨cs, hu, hn, hall⟩ := h
    exact ⟨cs, hu, hn, fun j hj => let ⟨u', hu', h1, hr⟩ := hall j hj; ⟨u', hu', h1, k.rc hr⟩⟩

/-- Arguments that read as these. -/
inductive RPs (Q : Nat → Prop) (w : World) : List PV → List Value → Prop
  | nil : RPs Q w [] []
  | cons {p : PV} {u : Value} {ps : List PV} {us : List Value} (h : RP Q w p u) (t : RPs Q w ps us) : RPs Q w (p :: ps) (u :: us)

theorem RPs.keep {Q Q' : Nat → Prop} {w' : World} {be' : Nm} {ga ga' : Nat → Nat} (k : Keeps be ga Q w be' ga' Q' w') {ps : List PV} {us : List Value} (h : RPs Q w ps us) : RPs Q' w' ps us := by
  induction h with
  | nil => exact .nil
  | cons h _ ih => exact .cons (h.keep k) ih

theorem argsM_run {cnd : Prop} : ∀ (ys : List Opd) (xs : List Operand) (hp : Nat → Option Ent) (L : List PV × List (Nat × Ent) → Prop), chkXs xs ys = true → (argsM cnd hp gc fr ys).run L →
    ∃ ps hs, L (ps, hs) ∧ ∀ {O W N a w be}, Fz O W N fr gc a w be hp (putH hs hp) ∧ (cnd → Rel O W N ⟨fr, hp, gc⟩ a w be → RPs (own O be ⟨fr, putH hs hp, gc⟩) w ps (xs.map a.eval))
  | [], [], hp, L, _, h => ⟨[], [], h, fun {_ _ _ _ _ _} => ⟨Fz.refl _, fun _ _ => .nil⟩⟩
  | [], _ :: _, hp, L, hc, _ => absurd hc (by simp [chkXs])
  | _ :: _, [], hp, L, hc, _ => absurd hc (by simp [chkXs])
  | y :: ys, x :: xs, hp, L, hc, h => by
    simp only [chkXs, Bool.and_eq_true] at hc
    simp only [argsM, M.run_bind] at h
    replace h := rd_run (fr := fr) (x := y) h
    obtain ⟨v, h, hv⟩ := h
    replace h := argM_run h
    obtain ⟨p, hs1, h, p1⟩ := h
    replace h := argsM_run ys xs _ _ hc.2 h
    obtain ⟨ps, hs2, h, p2⟩ := h
    refine ⟨_, _, h, fun {O W N a w be} => ?_⟩
    obtain ⟨f1, r1⟩ := p1 (O := O) (W := W) (N := N) (fr := fr) (a := a) (w := w) (be := be)
    obtain ⟨f2, r2⟩ := p2 (O := O) (W := W) (N := N) (a := a) (w := w) (be := be)
    rw [putH_append]
    refine ⟨f1.trans f2, fun c r => ?_⟩
    exact .cons ((r1 r (a.eval x) (hv c _ _ _ _ _ (chkX_RA r.slot hc.1))).keep (f2.keeps (f1.rel r))) (r2 c (f1.rel r))

theorem CEq.rc {Q : Nat → Prop} : ∀ {x y : Cell}, CEq x y → ∀ u, RC Q w x u → RC Q w y u := by
  intro x
  induction x with
  | int k n => intro y h u hu; rw [show y = .int k n from h]; exact hu
  | bool b => intro y h u hu; rw [show y = .bool b from h]; exact hu
  | str s => intro y h u hu; rw [show y = .str s from h]; exact hu
  | fn f => intro y h u hu; rw [show y = .fn f from h]; exact hu
  | sl size n f ih =>
    intro y h u hu
    obtain ⟨size', f', rfl, h⟩ := h
    rcases hu with ⟨h0, hu⟩ | ⟨b, off, cap, hu, hc1, hc2, hcells⟩
    · exact .inl ⟨h0, hu⟩
    · refine .inr ⟨b, off, cap, hu, hc1, hc2, fun i hi j hj => ?_⟩
      obtain ⟨rfl, hf⟩ := h (by omega)
      obtain ⟨h1, u', hu', hr⟩ := hcells i hi j hj
      exact ⟨h1, u', hu', ih i j (hf i hi j hj) u' hr⟩

theorem RPs.eq {Q : Nat → Prop} {ps qs : List PV} {us : List Value} (h : RPs Q w ps us) (he : PVsEq ps qs) : RPs Q w qs us := by
  induction h generalizing qs with
  | nil => cases he; exact .nil
  | cons h _ ih =>
    cases he with
    | cons e t =>
      refine .cons ?_ (ih t)
      cases e with
      | one e => exact e.rc _ h
      | many e =>
        obtain ⟨cs, hu, hn, hall⟩ := h
        exact ⟨cs, hu, hn, fun j hj => let ⟨u', hu', h1, hr⟩ := hall j hj; ⟨u', hu', h1, (e j hj).rc _ hr⟩⟩

theorem RPs.get {Q : Nat → Prop} {ps : List PV} {us : List Value} (h : RPs Q w ps us) : us.length = ps.length ∧ ∀ (i : Nat) (p : PV), ps[i]? = some p → ∃ u, us[i]? = some u ∧ RP Q w p u := by
  induction h with
  | nil => exact ⟨rfl, fun i p hp => absurd hp (by simp)⟩
  | cons h _ ih =>
    refine ⟨by simp [ih.1], fun i p hp => ?_⟩
    cases i with
    | zero =>
      simp only [List.getElem?_cons_zero, Option.some.injEq] at hp
      subst hp
      exact ⟨_, rfl, h⟩
    | succ i =>
      simp only [List.getElem?_cons_succ] at hp ⊢
      exact ih.2 i p hp

/-! results -/

theorem site_inj {d t t' : Nat} (h : site d t = site d t') : t = t' := by unfold site at h; omega

theorem rcEs_sites {d : Nat} : ∀ (m t : Nat) (f : Nat → RCell), (∀ s, s ∈ sitesOf (rcEs d t m f) → ∃ k, t ≤ k ∧ k < t + m ∧ s = site d k) ∧ (sitesOf (rcEs d t m f)).Nodup ∧
    ∀ s e, (s, e) ∈ rcEs d t m f → ∃ j size n g, j < m ∧ s = site d (t + j) ∧ f j = .ow size n g ∧ e = ⟨size, n, .dat g, false, true⟩
  | 0, t, f => ⟨fun s hs => absurd hs (by simp [rcEs, sitesOf]), by simp [rcEs, sitesOf], fun s e h => absurd h (by simp [rcEs])⟩
  | m + 1, t, f => by
    obtain ⟨h1, h2, h3⟩ := rcEs_sites (d := d) m (t + 1) (fun j => f (j + 1))
    cases hf : f 0 with
    | im x =>
      have e : rcEs d t (m + 1) f = rcEs d (t + 1) m fun j => f (j + 1) := by simp [rcEs, rcE, hf]
      rw [e]
      refine ⟨fun s hs => ?_, h2, fun s e he => ?_⟩
      · obtain ⟨k, a1, a2, a3⟩ := h1 s hs
        exact ⟨k, by omega, by omega, a3⟩
      · obtain ⟨j, size, n, g, a1, a2, a3, a4⟩ := h3 s e he
        exact ⟨j + 1, size, n, g, by omega, by rw [a2]; congr 1; omega, a3, a4⟩
    | ow size n g =>
      have e : rcEs d t (m + 1) f = (site d t, ⟨size, n, .dat g, false, true⟩) :: rcEs d (t + 1) m fun j => f (j + 1) := by simp [rcEs, rcE, hf]
      rw [e]
      refine ⟨fun s hs => ?_, ?_, fun s e he => ?_⟩
      · simp only [sitesOf, List.mem_cons] at hs
        rcases hs with rfl | hs
        · exact ⟨t, by omega, by omega, rfl⟩
        · obtain ⟨k, a1, a2, a3⟩ := h1 s hs
          exact ⟨k, by omega, by omega, a3⟩
      · simp only [sitesOf, List.nodup_cons]
        refine ⟨fun hs => ?_, h2⟩
        obtain ⟨k, a1, a2, a3⟩ := h1 _ hs
        have := site_inj a3
        omega
      · rcases List.mem_cons.1 he with he | he
        · simp only [Prod.mk.injEq] at he
          obtain ⟨rfl, rfl⟩ := he
          exact ⟨0, size, n, g, by omega, rfl, hf, rfl⟩
        · obtain ⟨j, size, n, g, a1, a2, a3, a4⟩ := h3 s e he
          exact ⟨j + 1, size, n, g, by omega, by rw [a2]; congr 1; omega, a3, a4⟩

theorem sitesOf_append (l m : List (Nat × Ent)) : sitesOf (l ++ m) = sitesOf l ++ sitesOf m := by
  induction l with
  | nil => rfl
  | cons x l ih => obtain ⟨s, e⟩ := x; simp [sitesOf, ih]

/-- How many cells a result has. -/
def RV.cellsN : RV → Nat
  | .one _ => 1
  | .many n _ => n
def RV.cell : RV → Nat → RCell
  | .one x, _ => x
  | .many _ f, j => f j

theorem rvE_eq (d i : Nat) (r : RV) : rvE d i r = rcEs d (32 * i) r.cellsN r.cell := by
  cases r with
  | one x => simp [rvE, rcEs, RV.cellsN, RV.cell]
  | many n f => rfl

theorem rvEs_sites {d : Nat} : ∀ (l : List RV) (i : Nat), (∀ r ∈ l, r.cellsN ≤ 32) → (∀ s, s ∈ sitesOf (rvEs d i l) → ∃ k, 32 * i ≤ k ∧ s = site d k) ∧ (sitesOf (rvEs d i l)).Nodup ∧
    ∀ s e, (s, e) ∈ rvEs d i l → ∃ m r j size n g, l[m]? = some r ∧ j < r.cellsN ∧ s = site d (32 * (i + m) + j) ∧ r.cell j = .ow size n g ∧ e = ⟨size, n, .dat g, false, true⟩
  | [], i, _ => ⟨fun s hs => absurd hs (by simp [rvEs, sitesOf]), by simp [rvEs, sitesOf], fun s e h => absurd h (by simp [rvEs])⟩
  | r :: l, i, hr => by
    obtain ⟨h1, h2, h3⟩ := rvEs_sites (d := d) l (i + 1) (fun r hr' => hr r (by simp [hr']))
    obtain ⟨g1, g2, g3⟩ := rcEs_sites (d := d) r.cellsN (32 * i) r.cell
    have hr0 := hr r (by simp)
    simp only [rvEs, sitesOf_append, rvE_eq]
    refine ⟨fun s hs => ?_, ?_, fun s e he => ?_⟩
    · rcases List.mem_append.1 hs with hs | hs
      · obtain ⟨k, a1, a2, a3⟩ := g1 s hs
        exact ⟨k, a1, a3⟩
      · obtain ⟨k, a1, a2⟩ := h1 s hs
        exact ⟨k, by omega, a2⟩
    · refine List.nodup_append.2 ⟨g2, h2, fun s hs s' hs' => ?_⟩
      rintro rfl
      obtain ⟨k, a1, a2, a3⟩ := g1 s hs
      obtain ⟨k', b1, b2⟩ := h1 s hs'
      rw [a3] at b2
      have := site_inj b2
      omega
    · rcases List.mem_append.1 he with he | he
      · obtain ⟨j, size, n, g, a1, a2, a3, a4⟩ := g3 s e he
        exact ⟨0, r, j, size, n, g, rfl, a1, a2, a3, a4⟩
      · obtain ⟨m, r', j, size, n, g, a0, a1, a2, a3, a4⟩ := h3 s e he
        exact ⟨m + 1, r', j, size, n, g, by simpa using a0, a1, by rw [a2]; congr 2; omega, a3, a4⟩

theorem rvAt_get (gc : Nat → Nat) (d : Nat) : ∀ (l : List RV) (i j : Nat) (r : RV), l[j]? = some r → rvAt gc d l i j = rvAV gc d (i + j) r
  | [], i, j, r, h => absurd h (by simp)
  | r' :: l, i, 0, r, h => by
    simp only [List.getElem?_cons_zero, Option.some.injEq] at h
    subst h; rfl
  | r' :: l, i, j + 1, r, h => by
    simp only [List.getElem?_cons_succ] at h
    rw [rvAt, rvAt_get gc d l (i + 1) j r h]
    congr 1; omega

theorem rcL_at (gc : Nat → Nat) (d : Nat) : ∀ (m t : Nat) (f : Nat → RCell) (j : Nat), j < m → rcL gc d t m f j = rcAV gc d (t + j) (f j)
  | 0, t, f, j, h => absurd h (by omega)
  | m + 1, t, f, 0, _ => rfl
  | m + 1, t, f, j + 1, h => by
    have := rcL_at gc d m (t + 1) (fun j => f (j + 1)) j (by omega)
    rw [show t + 1 + j = t + (j + 1) by omega] at this
    exact this

/-- A call's results come into the state. -/
theorem Rel.results (h : Rel O W N ⟨fr, hp, gc⟩ a w be) {w' : World} (hb : Below w.heap.size w w') {res : List RV} {v : Value} (hr : RRes (own O be ⟨fr, hp, gc⟩) w.heap.size w' res v) :
    ∃ be', Rel O W N ⟨fr, putH (rvEs d 0 res) hp, putG (sitesOf (rvEs d 0 res)) gc⟩ a w' be' ∧
      RA be' (putG (sitesOf (rvEs d 0 res)) gc) (own O be' ⟨fr, putH (rvEs d 0 res) hp, putG (sitesOf (rvEs d 0 res)) gc⟩) w' (resAV gc d res) v := by
  obtain ⟨vs, bl, hval, hfresh, hinj, hall⟩ := hr
  have hlen : vs.size = res.length := by
    unfold resVal at hval
    split at hval
    · exact hval.1
    · exact hval.1
  have h32 : ∀ r ∈ res, r.cellsN ≤ 32 := fun r hr => by
    obtain ⟨i, hi⟩ := List.getElem?_of_mem hr
    obtain ⟨u, _, hrr⟩ := hall i r hi
    cases r with
    | one x => exact Nat.le_trans (show (1 : Nat) ≤ 1 from Nat.le_refl _) (by omega)
    | many n f => obtain ⟨_, _, _, h, _⟩ := hrr; exact h
  obtain ⟨s1, s2, s3⟩ := rvEs_sites (d := d) res 0 h32
  let nn : Nat → Option Nat := fun s => bl ((s - d) / 1000 - 1)
  have hnn : ∀ t, nn (site d t) = bl t := fun t => by
    simp only [nn, site]
    congr 1; omega
  have hn : News w w' (rvEs d 0 res) nn := by
    refine ⟨s2, hb, fun s hs b hsb => ?_, fun s s' hs hs' b hsb hsb' => ?_⟩
    · obtain ⟨k, _, rfl⟩ := s1 s hs
      rw [hnn] at hsb
      exact hfresh k b hsb
    · obtain ⟨k, _, rfl⟩ := s1 s hs
      obtain ⟨k', _, rfl⟩ := s1 s' hs'
      rw [hnn] at hsb hsb'
      rw [hinj k k' b hsb hsb']
  let Q' := own O (nmU be gc (rvEs d 0 res) nn) ⟨fr, putH (rvEs d 0 res) hp, putG (sitesOf (rvEs d 0 res)) gc⟩
  have hQ : ∀ b, Q' b → (own O be ⟨fr, hp, gc⟩ b ∨ ∃ t, bl t = some b) := fun b hb' => by
    rcases own_news h hn hb' with h' | ⟨s, e, hse, _, hs⟩
    · exact .inl h'
    · obtain ⟨k, _, rfl⟩ := s1 s (sites_mem.2 ⟨e, hse⟩)
      rw [hnn] at hs
      exact .inr ⟨k, hs⟩
  have hrc : ∀ x u, RC (fun b => own O be ⟨fr, hp, gc⟩ b ∨ ∃ t, bl t = some b) w' x u → RC Q' w' x u := fun x u hx => RC.keep (fun b _ hb' => hQ b hb') (fun _ _ _ _ h => h) u hx
  -- a result's cell
  have hcellOf : ∀ (i : Nat) (r : RV), res[i]? = some r → ∀ j, j < r.cellsN → ∃ u, RR1 (fun b => own O be ⟨fr, hp, gc⟩ b ∨ ∃ t, bl t = some b) w.heap.size w' (bl (32 * i + j)) (r.cell j) u := fun i r hi j hj => by
    obtain ⟨u, _, hrr⟩ := hall i r hi
    cases r with
    | one x =>
      obtain rfl : j = 0 := by have : j < 1 := hj; omega
      exact ⟨u, hrr.2⟩
    | many n f =>
      obtain ⟨cs, _, _, _, hc⟩ := hrr
      obtain ⟨u', _, _, h2⟩ := hc j hj
      exact ⟨u', h2⟩
  refine ⟨_, h.news hn (fun s e hse => ?_), ?_⟩
  · obtain ⟨m, r, j, size, n, g, a0, a1, a2, a3, rfl⟩ := s3 s e hse
    rw [Nat.zero_add] at a2
    subst a2
    rw [hnn]
    obtain ⟨u, hu⟩ := hcellOf m r a0 j a1
    rw [a3] at hu
    rcases hu with ⟨h1, h2, _⟩ | ⟨b', o, cap, cs, el, h1, h2, h3, h4, h5, h6, h7, h8, h9⟩
    · exact .inl ⟨h1, h2⟩
    · refine .inr ⟨b', cs, el, (0, 0), h1, h7, Nat.le_trans (Nat.mul_le_mul_right _ h4) (by have := h6.1; show cap * size ≤ cs.size; omega), fun k _ h => by omega, fun _ => rfl, h8, fun i hi j hj => ?_⟩
      obtain ⟨u', hu', hr'⟩ := h9 i hi j hj
      exact ⟨u', hu', hrc _ _ hr'⟩
  · -- the value
    have hcell : ∀ (i j : Nat) (r : RV), res[i]? = some r → j < r.cellsN → ∀ u, RR1 (fun b => own O be ⟨fr, hp, gc⟩ b ∨ ∃ t, bl t = some b) w.heap.size w' (bl (32 * i + j)) (r.cell j) u →
        RA (nmU be gc (rvEs d 0 res) nn) (putG (sitesOf (rvEs d 0 res)) gc) Q' w' (rcAV gc d (32 * i + j) (r.cell j)) u := fun i j r hi hj u hu => by
      cases hx : r.cell j with
      | im x => rw [hx] at hu; exact hrc _ _ hu
      | ow size n g =>
        rw [hx] at hu
        have hmem : site d (32 * i + j) ∈ sitesOf (rvEs d 0 res) := by
          have key : ∀ (l : List RV) (i0 i : Nat), l[i]? = some r → site d (32 * (i0 + i) + j) ∈ sitesOf (rvEs d i0 l) := by
            intro l
            induction l with
            | nil => intro i0 i hi; exact absurd hi (by simp)
            | cons r0 l ih =>
              intro i0 i hi
              simp only [rvEs, sitesOf_append]
              cases i with
              | zero =>
                simp only [List.getElem?_cons_zero, Option.some.injEq] at hi
                subst hi
                refine List.mem_append_left _ ?_
                rw [rvE_eq]
                have key2 : ∀ (m t : Nat) (f : Nat → RCell) (j : Nat), j < m → f j = .ow size n g → site d (t + j) ∈ sitesOf (rcEs d t m f) := by
                  intro m
                  induction m with
                  | zero => intro t f j hj; omega
                  | succ m ih2 =>
                    intro t f j hj hfj
                    simp only [rcEs, sitesOf_append]
                    cases j with
                    | zero => refine List.mem_append_left _ ?_; simp [rcE, hfj, sitesOf]
                    | succ j =>
                      refine List.mem_append_right _ ?_
                      have := ih2 (t + 1) (fun j => f (j + 1)) j (by omega) hfj
                      rwa [show t + 1 + j = t + (j + 1) by omega] at this
                exact key2 r0.cellsN (32 * (i0 + 0)) r0.cell j hj hx
              | succ i =>
                simp only [List.getElem?_cons_succ] at hi
                refine List.mem_append_right _ ?_
                have := ih (i0 + 1) i hi
                rwa [show i0 + 1 + i = i0 + (i + 1) by omega] at this
          have := key res 0 i hi
          rwa [Nat.zero_add] at this
        refine ⟨?_, ?_⟩
        · rw [putG_mem s2 hmem]; exact Nat.le_refl _
        · rw [nmU_new hmem, hnn]
          rcases hu with ⟨h1, h2, h3⟩ | ⟨b', o, cap, cs, el, h1, h2, h3, h4, h5, h6, h7, h8, h9⟩
          · exact .inl ⟨h1, rfl, h2, h3⟩
          · exact .inr ⟨b', o, cap, cs, el, (0, 0), h1, h3, h4, h5, fun h => by have := h6.2 h; omega, h7, h6.1⟩
    have hone : ∀ (i : Nat) (r : RV) (u : Value), res[i]? = some r → RR (fun b => own O be ⟨fr, hp, gc⟩ b ∨ ∃ t, bl t = some b) w.heap.size w' bl i r u →
        RA (nmU be gc (rvEs d 0 res) nn) (putG (sitesOf (rvEs d 0 res)) gc) Q' w' (rvAV gc d i r) u := fun i r u hi hu => by
      cases r with
      | one x => exact hcell i 0 (.one x) hi (show 0 < 1 by omega) u hu.2
      | many n f =>
        obtain ⟨cs, hcs, hn, _, hc⟩ := hu
        refine ⟨cs, hcs, hn, fun j hj => ?_⟩
        obtain ⟨u', hu', h1, h2⟩ := hc j hj
        refine ⟨u', hu', h1, ?_⟩
        rw [rcL_at gc d n (32 * i) f j hj]
        exact hcell i j (.many n f) hi hj u' h2
    have htup : vs.size = res.length → v = .tuple vs → RA (nmU be gc (rvEs d 0 res) nn) (putG (sitesOf (rvEs d 0 res)) gc) Q' w' (.tup res.length fun i => rvAt gc d res 0 i) v := fun hsz hv => by
      refine ⟨vs, hv, hsz, fun j hj => ?_⟩
      have hj' : res[j]? = some res[j] := List.getElem?_eq_getElem hj
      obtain ⟨u, hu, hrr⟩ := hall j _ hj'
      refine ⟨u, hu, ?_⟩
      show RA _ _ _ _ (rvAt gc d res 0 j) u
      rw [rvAt_get gc d res 0 j _ hj', Nat.zero_add]
      exact hone j _ u hj' hrr
    show RA (nmU be gc (rvEs d 0 res) nn) (putG (sitesOf (rvEs d 0 res)) gc) Q' w' (resAV gc d res) v
    clear_value Q'
    clear hcell hcellOf s1 s2 s3 hn hlen h32
    match res, hval, htup, hone, hall with
    | [], hval, htup, _, _ => exact ⟨vs, hval.2, hval.1, fun j hj => absurd hj (by omega)⟩
    | [r], hval, _, hone, hall =>
      obtain ⟨u, hu, hrr⟩ := hall 0 r rfl
      have : u = v := by
        have h2 := hval.2
        rw [hu] at h2
        exact Option.some.inj h2
      subst this
      exact hone 0 r u rfl hrr
    | r :: r' :: l, hval, htup, _, _ => exact htup hval.1 hval.2

end
end Lk
