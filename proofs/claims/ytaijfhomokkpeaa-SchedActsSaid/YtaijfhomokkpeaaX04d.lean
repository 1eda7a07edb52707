/-
  disk.Read at this seat, as the machine's contract.
-/
import Derived.Test.YtaijfhomokkpeaaGs03a
import Derived.Test.YtaijfhomokkpeaaX04c
set_option linter.unusedSimpArgs false
set_option maxHeartbeats 8000000
set_option maxRecDepth 100000
set_option linter.unusedVariables false
namespace Go.Proofs
open Go.RowKit Go.Shelf Lk Lk.S03
theorem Try.goRead : Lk.isGo Try.prog 49 = true := by kernel_rfl
theorem Try.rc_sl {O : Nat → Prop} {w : World} {size n : Nat} {f : Nat → Nat → Cell} {u : Value} (h : RC O w (.sl size n f) u) :
    ∃ p cap b o, u = .slice p n cap ∧ (0 < n → p = some ⟨b, o, none⟩) ∧ (0 < n → 0 < size → b < w.heap.size) ∧ ∀ i, i < n → ∀ j, j < size → ∃ x, w.cell? ⟨b, o + i * size + j, none⟩ = some x ∧ RC O w (f i j) x := by
  rcases h with ⟨h0, p, rfl⟩ | ⟨b, o, cap, rfl, h1, h2, h3⟩
  · subst h0
    exact ⟨p, 0, 0, 0, rfl, fun h => absurd h (by omega), fun h => absurd h (by omega), fun i hi => absurd hi (by omega)⟩
  · refine ⟨_, cap, b, o, rfl, fun _ => rfl, fun hn hs => ?_, fun i hi j hj => ?_⟩
    · obtain ⟨_, x, hx, _⟩ := h3 0 hn 0 hs
      exact World.block_lt_of_cell? _ _ hx
    · obtain ⟨_, x, hx, hr⟩ := h3 i hi j hj
      exact ⟨x, hx, hr⟩
theorem Try.read_ok (d : Dsk) (at_ : Int) (hl : d.cache.length ≤ 1000000) (hR : FnOk Try.prog 45 [.many 2 (dskE d)] [.one (.im (.bool (decide (right d))))]) :
    FnOk Try.prog 49 [.many 2 (dskE d), .one (.int .i64 at_)] [.one (.im (.str (d.rd at_).1)), .one (.im (.int .i64 (d.rd at_).2))] := by
  refine ⟨Try.goRead, fun O vs w hO hvs hargs => ?_⟩
  obtain ⟨u0, h0, r0⟩ := hargs 0 _ rfl
  obtain ⟨u1, h1, r1⟩ := hargs 1 _ rfl
  have e1 : u1 = .int .i64 at_ := r1
  subst e1
  obtain ⟨cs, rfl, hcs, hall⟩ := id r0
  have hv : vs = #[.agg cs, .int .i64 at_] := by
    have hl : vs.size = 2 := hvs
    apply Array.ext_getElem?
    intro i
    match i with
    | 0 => simpa using h0
    | 1 => simpa using h1
    | i + 2 => simp [hl]
  subst hv
  obtain ⟨sS, hs0, _, hsR⟩ := hall 0 (by omega)
  obtain ⟨sC, hs1, hone, hcR⟩ := hall 1 (by omega)
  have hcs' : cs = #[sS, sC] := by
    apply Array.ext_getElem?
    intro i
    match i with
    | 0 => simpa using hs0
    | 1 => simpa using hs1
    | i + 2 => simp [hcs]
  subst hcs'
  obtain ⟨pS, cS, bS, oS, rfl, hpS, hbS, hsec⟩ := Try.rc_sl hsR
  obtain ⟨pC, cC, bC, oC, rfl, hpC, hbC, hwr⟩ := Try.rc_sl hcR
  have hget : ∀ j, j < d.cache.length → (d.cache.map fun x => (x.at_, x.data)).getD j (0, []) = ((d.cache.getD j default).at_, (d.cache.getD j default).data) := fun j hj => by
    rw [List.getD_eq_getElem?_getD, List.getElem?_map, List.getElem?_eq_getElem hj, getD_eq hj]; rfl
  have hlen : (d.cache.map fun x => (x.at_, x.data)).length = d.cache.length := by simp
  have hcalls := Try.read_in (.slice pS d.secs.length cS) (.slice pC d.cache.length cC) d.secs.length cS pS at_ (d.cache.map fun x => (x.at_, x.data)) (by omega) (fun i => d.secs.getD i []) bS oS hpS (decide (right d)) (d.rd at_)
    (fun h => by
      unfold Dsk.rd
      rw [if_neg]
      rintro ⟨a, b, c⟩
      rcases h with h | h | h
      · rw [decide_eq_false_iff_not] at h; exact h a
      · omega
      · omega) w rfl hone (fun h => hbS h (by omega))
    (fun i hi => by
      obtain ⟨x, hx, hr⟩ := hsec i hi 0 (by omega)
      rw [show oS + i * 1 + 0 = oS + i by omega] at hx
      rw [hx, show x = .string ⟨⟨d.secs.getD i default⟩⟩ from hr]; rfl)
    (fun k hk hlast hka hrb hge hlt => by
      rw [hlen] at hk hlast
      rw [hget k hk] at hka ⊢
      unfold Dsk.rd
      rw [if_pos ⟨of_decide_eq_true hrb, hge, hlt⟩]
      unfold Dsk.read
      rw [show ((at_.toNat : Nat) : Int) = at_ by omega, rdL_hit hk hka (fun j hj hjl => by have := hlast j hj hjl; rwa [hget j hjl] at this)])
    (fun hno hrb hge hlt => by
      rw [hlen] at hno
      unfold Dsk.rd
      rw [if_pos ⟨of_decide_eq_true hrb, hge, hlt⟩]
      unfold Dsk.read
      rw [show ((at_.toNat : Nat) : Int) = at_ by omega, rdL_none (all_of_getD fun j hj => by have := hno j hj; rwa [hget j hj] at this)])
    (by
      refine ⟨pC, cC, bC, oC, by rw [hlen], fun h => hpC (by omega), fun h => hbC (by omega) (by omega), fun j hj => ?_⟩
      rw [hlen] at hj
      rw [hget j hj]
      obtain ⟨x, hx, hr⟩ := hwr j hj 0 (by omega)
      obtain ⟨y, hy, hr'⟩ := hwr j hj 1 (by omega)
      rw [Nat.add_zero] at hx
      exact ⟨by rw [hx, show x = .int .i64 (d.cache.getD j default).at_ from hr], by rw [hy, show y = .string ⟨⟨(d.cache.getD j default).data⟩⟩ from hr']⟩)
    (fun W hW => by
      have hO' : ∀ b, (fun _ : Nat => False) b → b < W.heap.size := fun _ h => h.elim
      refine (hR.calls (fun _ => False) #[.agg #[.slice pS d.secs.length cS, .slice pC d.cache.length cC]] W hO' rfl (fun i p hp => ?_)).mono fun e W' ⟨v, he, hb, hres⟩ => ?_
      · cases i with
        | zero =>
          simp only [List.getElem?_cons_zero, Option.some.injEq] at hp
          subst hp
          refine ⟨_, rfl, _, rfl, rfl, fun j hj => ?_⟩
          obtain ⟨u', hu', h1', hr'⟩ := hall j hj
          exact ⟨u', hu', h1', RC.keep (fun _ _ h => h.elim) (fun b o x _ hx => (hW.cell (p := ⟨b, o, none⟩) (World.block_lt_of_cell? _ _ hx)).trans hx) u' hr'⟩
        | succ i => simp at hp
      · obtain ⟨vs, bl, hrv, _, _, hall'⟩ := hres
        obtain ⟨u, hu, hrr⟩ := hall' 0 _ rfl
        have huv : u = v := by
          have h3 : vs.size = 1 ∧ vs[0]? = some v := hrv
          rw [hu] at h3
          exact Option.some.inj h3.2
        subst huv
        have hvt : u = .bool (decide (right d)) := hrr.2
        subst hvt
        exact ⟨he, hb⟩)
  refine (callsIn_wide.1 hcalls).mono fun e w' ⟨⟨s, err, he, hse⟩, hb⟩ => ⟨_, he, hb, #[.string ⟨⟨s⟩⟩, .int .i64 err], fun _ => none, ⟨rfl, rfl⟩, ?_, ?_, ?_⟩
  · intro t b h
    cases h
  · intro t t' b h
    cases h
  · intro i r hi
    rw [hse] at hi
    match i with
    | 0 =>
      simp only [List.getElem?_cons_zero, Option.some.injEq] at hi
      subst hi
      exact ⟨_, rfl, rfl, rfl⟩
    | 1 =>
      simp only [List.getElem?_cons_succ, List.getElem?_cons_zero, Option.some.injEq] at hi
      subst hi
      exact ⟨_, rfl, rfl, rfl⟩
    | i + 2 => simp at hi
end Go.Proofs
