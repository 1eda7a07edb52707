/-
  Chapter 3's seat: disk.Read.
-/
import Derived.RangeFuncWrites
import Derived.RangeFuncNested
import Derived.Shelf.RegionOpen
import Derived.Test.YtaijfhomokkpeaaX04b
set_option linter.unusedSimpArgs false
set_option maxHeartbeats 8000000
set_option maxRecDepth 100000
set_option linter.unusedVariables false
namespace Go.Proofs
open Go.RowKit Go.Shelf
attribute [local go_sem] Oper.semAt_some
theorem Try.heap_alloc_old {w : World} {ob : Obj} {b : Nat} {x : Obj} (h : w.heap[b]? = some x) : (w.alloc ob).heap[b]? = some x := by
  have := (Array.getElem?_eq_some_iff.1 h).1
  exact (Below.heap_alloc w ob b this).trans h
theorem Try.cell_of {w : World} {b j : Nat} {cs : Array Value} {t : TypeId} {fz : Nat × Nat} {u : Value} (h : w.heap[b]? = some (.cells cs t fz)) (hu : cs[j]? = some u) : w.cell? ⟨b, j, none⟩ = some u := by
  simp [World.cell?, h, hu]
theorem Try.frz_of {w : World} {b j : Nat} {cs : Array Value} {t : TypeId} (h : w.heap[b]? = some (.cells cs t)) : w.frozen? ⟨b, j, none⟩ = false := by
  simp [World.frozen?, h]
theorem Try.cell_other {W : World} {b b' : Nat} {v : Value} (h : b ≠ b') : (W.setCell ⟨b, 0, none⟩ v).cell? ⟨b', 0, none⟩ = W.cell? ⟨b', 0, none⟩ :=
  World.cell?_setCell_other _ _ _ _ (by intro e; injection e; contradiction)
def Try.rdW (w : World) (sS sC : Value) (at_ : Int) : World := (((w.alloc (.cells #[sS, sC] 25)).alloc (.cells #[.int .i64 at_] 3)).alloc (.cells #[.string ⟨#[]⟩] 9)).alloc (.cells #[.int .i64 0] 35)
theorem Try.rdW_size (w : World) (sS sC : Value) (at_ : Int) : (Try.rdW w sS sC at_).heap.size = w.heap.size + 4 := by simp [Try.rdW]
theorem Try.rdW_below (w : World) (sS sC : Value) (at_ : Int) : Below w.heap.size w (Try.rdW w sS sC at_) :=
  ((((Below.refl _ w).alloc (Nat.le_refl _) _).alloc (by simp) _).alloc (by simp; omega) _).alloc (by simp; omega) _
theorem Try.rdW_heap (w : World) (sS sC : Value) (at_ : Int) :
    (Try.rdW w sS sC at_).heap[w.heap.size]? = some (.cells #[sS, sC] 25) ∧ (Try.rdW w sS sC at_).heap[w.heap.size + 1]? = some (.cells #[.int .i64 at_] 3) ∧
    (Try.rdW w sS sC at_).heap[w.heap.size + 2]? = some (.cells #[.string ⟨#[]⟩] 9) ∧ (Try.rdW w sS sC at_).heap[w.heap.size + 3]? = some (.cells #[.int .i64 0] 35) := by
  refine ⟨?_, ?_, ?_, ?_⟩
  · exact Try.heap_alloc_old (Try.heap_alloc_old (Try.heap_alloc_old (heap_alloc_new w _)))
  · refine Try.heap_alloc_old (Try.heap_alloc_old ?_)
    have := heap_alloc_new (w.alloc (.cells #[sS, sC] 25)) (.cells #[.int .i64 at_] 3)
    rwa [World.size_alloc] at this
  · refine Try.heap_alloc_old ?_
    have := heap_alloc_new ((w.alloc (.cells #[sS, sC] 25)).alloc (.cells #[.int .i64 at_] 3)) (.cells #[.string ⟨#[]⟩] 9)
    rwa [World.size_alloc, World.size_alloc] at this
  · have := heap_alloc_new (((w.alloc (.cells #[sS, sC] 25)).alloc (.cells #[.int .i64 at_] 3)).alloc (.cells #[.string ⟨#[]⟩] 9)) (.cells #[.int .i64 0] 35)
    rwa [World.size_alloc, World.size_alloc, World.size_alloc] at this
set_option maxRecDepth 100000 in
set_option maxHeartbeats 8000000 in
theorem Try.read_in (sS sC : Value) (nS cS : Nat) (pS : Option Addr) (at_ : Int) (ws : List (Int × List UInt8)) (hreach : ws.length ≤ 1000000) (sec : Nat → List UInt8) (bS oS : Nat) (hpS : 0 < nS → pS = some ⟨bS, oS, none⟩) (rb : Bool) (res : List UInt8 × Int) (hres0 : rb = false ∨ at_ < 0 ∨ (nS : Int) ≤ at_ → res = ([], 1)) (w : World) (hs : sS = .slice pS nS cS) (hsc : sC.oneCell' = true)
    (hbS : 0 < nS → bS < w.heap.size) (hsec : ∀ i, i < nS → w.cell? ⟨bS, oS + i, none⟩ = some (.string ⟨⟨sec i⟩⟩))
    (hresH : ∀ k, k < ws.length → (∀ j, k < j → j < ws.length → (ws.getD j (0, [])).1 ≠ at_) → (ws.getD k (0, [])).1 = at_ → rb = true → 0 ≤ at_ → at_ < nS → res = ((ws.getD k (0, [])).2, 0))
    (hresN : (∀ j, j < ws.length → (ws.getD j (0, [])).1 ≠ at_) → rb = true → 0 ≤ at_ → at_ < nS → res = (sec at_.toNat, 0))
    (hW : Try.Wrs w.heap.size w sC ws) (hr : ∀ W, Below w.heap.size w W → Calls Try.prog 45 #[.agg #[sS, sC]] W fun e W' => e = .returned (.bool rb) ∧ Below W.heap.size W W') :
    CallsIn Fence.wide 9 Try.prog 49 #[.agg #[sS, sC], .int .i64 at_] w fun e W' => (∃ s err, e = .returned (.tuple #[.string ⟨⟨s⟩⟩, .int .i64 err]) ∧ res = (s, err)) ∧ Below w.heap.size w W' := by
  obtain ⟨p, cap, b, off, rfl, hp, hb, hcs⟩ := id hW
  subst hs
  refine callsIn_of_wp_marks Try.func49 rfl trivial ?_ rfl
  simp only [Try.ntmps49, List.size_toArray, List.length_cons, List.length_nil, Nat.reduceAdd, Nat.reduceSub, Array.replicate_succ, Array.replicate_zero, List.push_toArray, List.append_toArray, List.nil_append, List.cons_append]
  have hB1 := Try.rdW_below w (.slice pS nS cS) (.slice p ws.length cap) at_
  have hH1 := Try.rdW_heap w (.slice pS nS cS) (.slice p ws.length cap) at_
  have hZ1 := Try.rdW_size w (.slice pS nS cS) (.slice p ws.length cap) at_
  have hr1 := hr _ hB1
  obtain ⟨w1, hw1⟩ : ∃ w1, w1 = Try.rdW w (.slice pS nS cS) (.slice p ws.length cap) at_ := ⟨_, rfl⟩
  have hw1' := hw1
  unfold Try.rdW at hw1'
  rw [← hw1] at hB1 hH1 hZ1 hr1
  clear hw1
  gi_wp2_with (first | (gi_at_call 45; skip; fail))
  refine ⟨trivial, ?_⟩
  rw [← hw1']
  refine (callsIn_wide.2 hr1).mono ?_
  clear hw1'
  rintro e W ⟨rfl, hBW⟩
  have c20 : W.cell? ⟨w.heap.size, 0, none⟩ = some (.slice pS nS cS) := (hBW.cell (p := ⟨w.heap.size, 0, none⟩) (by show w.heap.size < _; omega)).trans (Try.cell_of hH1.1 rfl)
  have c21 : W.cell? ⟨w.heap.size, 1, none⟩ = some (.slice p ws.length cap) := (hBW.cell (p := ⟨w.heap.size, 1, none⟩) (by show w.heap.size < _; omega)).trans (Try.cell_of hH1.1 rfl)
  have c30 : W.cell? ⟨w.heap.size + 1, 0, none⟩ = some (.int .i64 at_) := (hBW.cell (p := ⟨w.heap.size + 1, 0, none⟩) (by show w.heap.size + 1 < _; omega)).trans (Try.cell_of hH1.2.1 rfl)
  have c40 : W.cell? ⟨w.heap.size + 1 + 1, 0, none⟩ = some (.string ⟨#[]⟩) := (hBW.cell (p := ⟨w.heap.size + 1 + 1, 0, none⟩) (by show w.heap.size + 1 + 1 < _; omega)).trans (Try.cell_of hH1.2.2.1 rfl)
  have c50 : W.cell? ⟨w.heap.size + 1 + 1 + 1, 0, none⟩ = some (.int .i64 0) := (hBW.cell (p := ⟨w.heap.size + 1 + 1 + 1, 0, none⟩) (by show w.heap.size + 1 + 1 + 1 < _; omega)).trans (Try.cell_of hH1.2.2.2 rfl)
  have f40 : W.frozen? ⟨w.heap.size + 1 + 1, 0, none⟩ = false := Try.frz_of ((hBW.block _ (by show w.heap.size + 1 + 1 < _; omega)).trans hH1.2.2.1)
  have f50 : W.frozen? ⟨w.heap.size + 1 + 1 + 1, 0, none⟩ = false := Try.frz_of ((hBW.block _ (by show w.heap.size + 1 + 1 + 1 < _; omega)).trans hH1.2.2.2)
  have hBW' : Below w.heap.size w W := hB1.trans (hBW.mono (by omega))
  -- the refusals
  have refuse : ∀ tmps : Array Value, tmps[4]? = some (.pointer (some ⟨w.heap.size + 1 + 1, 0, none⟩)) → tmps[5]? = some (.pointer (some ⟨w.heap.size + 1 + 1 + 1, 0, none⟩)) →
      bodyPostM Fence.wide 9 Try.prog Try.f49 (fun e W' => (∃ s err, e = .returned (.tuple #[.string ⟨⟨s⟩⟩, .int .i64 err]) ∧ (([] : List UInt8), (1 : Int)) = (s, err)) ∧ Below w.heap.size w W') Exit.ret { tmps := tmps, defers := [] }
      ((W.setCell ⟨w.heap.size + 1 + 1, 0, none⟩ (.string ⟨#[]⟩)).setCell ⟨w.heap.size + 1 + 1 + 1, 0, none⟩ (.int .i64 1)) := by
    intro tmps h4 h5
    have hc5 : ((W.setCell ⟨w.heap.size + 1 + 1, 0, none⟩ (.string ⟨#[]⟩)).setCell ⟨w.heap.size + 1 + 1 + 1, 0, none⟩ (.int .i64 1)).cell? ⟨w.heap.size + 1 + 1 + 1, 0, none⟩ = some (.int .i64 1) :=
      World.cell?_setCell_same' _ _ _ (by rw [Try.cell_other (by omega), c50]; rfl)
    have hc4 : ((W.setCell ⟨w.heap.size + 1 + 1, 0, none⟩ (.string ⟨#[]⟩)).setCell ⟨w.heap.size + 1 + 1 + 1, 0, none⟩ (.int .i64 1)).cell? ⟨w.heap.size + 1 + 1, 0, none⟩ = some (.string ⟨#[]⟩) := by
      rw [Try.cell_other (by omega)]
      exact World.cell?_setCell_same' _ _ _ (by rw [c40]; rfl)
    refine ⟨.tuple #[.string ⟨#[]⟩, .int .i64 1], ?_, ⟨[], 1, rfl, rfl⟩, ?_⟩
    · simp [results, Try.f49, go_sem, h4, h5, hc4, hc5]
    · exact (hBW'.setCell (p := ⟨w.heap.size + 1 + 1, 0, none⟩) (by show w.heap.size ≤ w.heap.size + 1 + 1; omega) _).setCell (p := ⟨w.heap.size + 1 + 1 + 1, 0, none⟩) (by show w.heap.size ≤ w.heap.size + 1 + 1 + 1; omega) _
  cases rb
  · have hres : res = ([], 1) := hres0 (.inl rfl)
    subst hres
    gi_wp2
    exact refuse _ rfl rfl
  · by_cases h0 : at_ < 0
    · have hres : res = ([], 1) := hres0 (.inr (.inl h0))
      subst hres
      gi_wp2
      exact refuse _ rfl rfl
    · by_cases h1 : (nS : Int) ≤ at_
      · have hres : res = ([], 1) := hres0 (.inr (.inr h1))
        subst hres
        gi_wp2
        exact refuse _ rfl rfl
      · gi_wp2
        refine ⟨trivial, ?_⟩
        refine (Try.back_in Fence.wide 8 trivial rfl _ _ _ _).mono ?_
        rintro e W2 ⟨rfl, hW2⟩
        rw [hW2]
        gi_wp2
        rw [← hW2]
        have hB2 : Below W.heap.size W W2 := by rw [hW2]; exact (Below.refl _ W).alloc (Nat.le_refl _) _
        have hZ2 : W2.heap.size = W.heap.size + 1 := by rw [hW2, World.size_alloc]
        have hwW := hBW'.size
        have hcb : W2.cell? ⟨W.heap.size, 0, none⟩ = some (.slice p ws.length cap) := by
          rw [hW2]; exact Try.cell_of (heap_alloc_new W _) rfl
        have hwW1 := hBW.size
        have d20 := (hB2.cell (p := ⟨w.heap.size, 0, none⟩) (by show w.heap.size < _; omega)).trans c20
        have d30 := (hB2.cell (p := ⟨w.heap.size + 1, 0, none⟩) (by show w.heap.size + 1 < _; omega)).trans c30
        have d40 := (hB2.cell (p := ⟨w.heap.size + 1 + 1, 0, none⟩) (by show w.heap.size + 1 + 1 < _; omega)).trans c40
        have d50 := (hB2.cell (p := ⟨w.heap.size + 1 + 1 + 1, 0, none⟩) (by show w.heap.size + 1 + 1 + 1 < _; omega)).trans c50
        have hBw2 : Below w.heap.size w W2 := hBW'.trans (hB2.mono hwW)
        have hW22 : Try.Wrs W2.heap.size W2 (.slice p ws.length cap) ws := by
          obtain ⟨p', cap', b', off', e1, e2, e3, e4⟩ := hW.below hBw2
          exact ⟨p', cap', b', off', e1, e2, fun h => by have := e3 h; omega, e4⟩
        have k40 : W2.heap[w.heap.size + 1 + 1]? = some (.cells #[.string ⟨#[]⟩] 9) := (hB2.block _ (by omega)).trans ((hBW.block _ (by omega)).trans hH1.2.2.1)
        have k50 : W2.heap[w.heap.size + 1 + 1 + 1]? = some (.cells #[.int .i64 0] 35) := (hB2.block _ (by omega)).trans ((hBW.block _ (by omega)).trans hH1.2.2.2)
        clear hW2
        refine wpIn_rangeFunc_ownH (F := Fence.wide) (n := 9) rfl (by omega) (gf := 93) (lb := #[.pointer (some ⟨W.heap.size, 0, none⟩)]) rfl trivial (enters_of Try.func93 (by kernel_rfl) rfl)
          (Try.back_stops Fence.wide 8 trivial rfl (by omega) W.heap.size W2.heap.size _ ws hreach W2 (by omega) (Nat.le_refl _) hcb hW22) belowK_t (belowK_b (Nat.le_refl _)) (Below.refl _ _) (fun _ => rfl)
          (fun pre W' => (∀ x ∈ pre, x.2.1 ≠ at_) ∧ Below W2.heap.size W2 W')
          (fun c pre W' => (c = .ret ∧ ∃ ini last, pre = ini ++ [last] ∧ (∀ x ∈ ini, x.2.1 ≠ at_) ∧ last.2.1 = at_ ∧ W'.cell? ⟨w.heap.size + 1 + 1, 0, none⟩ = some (.string ⟨⟨last.2.2⟩⟩) ∧ W'.cell? ⟨w.heap.size + 1 + 1 + 1, 0, none⟩ = some (.int .i64 0)) ∧ Below w.heap.size w W')
          (OwnFrom.and (ownFrom_pure _ _) (ownFrom_below (Nat.le_refl _) (Nat.le_refl _)))
          (fun c => OwnFrom.and (Own.from (fun s A B row hs hg hr => by obtain ⟨hc, ini, last, e1, e2, e3, e4, e5⟩ := hs; exact ⟨hc, ini, last, e1, e2, e3, cell_kept e4 hg hr, cell_kept e5 hg hr⟩) _) (ownFrom_below (Nat.le_refl _) (by omega)))
          ⟨by simp, Below.refl _ _⟩
          (fun x a' W' => ∃ Bx, W2.heap.size ≤ Bx ∧ W'.cell? ⟨Bx, 0, none⟩ = some (.int .i64 x.2.1) ∧ W'.cell? ⟨Bx, 1, none⟩ = some (.string ⟨⟨x.2.2⟩⟩) ∧ a' = { tmps := #[.agg #[.slice pS nS cS, .slice p ws.length cap], .int .i64 at_, .pointer (some ⟨w.heap.size, 0, none⟩), .pointer (some ⟨w.heap.size + 1, 0, none⟩), .pointer (some ⟨w.heap.size + 1 + 1, 0, none⟩), .pointer (some ⟨w.heap.size + 1 + 1 + 1, 0, none⟩), undef, .pointer (some ⟨Bx, 0, none⟩), .agg #[.slice pS nS cS, .slice p ws.length cap], .bool true, .bool false, .bool false, .int .i64 at_, .bool (decide (at_ < 0)), .bool (decide (at_ < 0)), .bool (decide (at_ < 0)), .int .i64 at_, .pointer (some ⟨w.heap.size, 0, none⟩), .slice pS nS cS, .int .i64 (nS : Int), .bool (decide ((nS : Int) ≤ at_)), .bool (decide (at_ < 0) || decide ((nS : Int) ≤ at_)), .pointer (some ⟨w.heap.size, 1, none⟩), .slice p ws.length cap, .func (.func 93) #[] #[.pointer (some ⟨W.heap.size, 0, none⟩)], .int .i64 (x.1 : Int), .agg #[.int .i64 x.2.1, .string ⟨⟨x.2.2⟩⟩], undef, undef, undef, undef, undef, undef, undef, undef, undef, undef, undef], defers := [] })
          (fun x a' => Own.from (fun s A B row hs hg hr => by obtain ⟨Bx, e1, e2, e3, e4⟩ := hs; exact ⟨Bx, e1, cell_kept e2 hg hr, cell_kept e3 hg hr, e4⟩) _)
          ?assign ?body ?done ?stop
        case assign =>
          rintro l pre x Wa K ⟨hi, hBa⟩ hK
          dsimp only [Try.encW]
          gi_wp2
          exact hK _ _ ((KeepsOthers.alloc _ _).from _) ((Below.refl _ Wa).alloc hBa.size _) ⟨hi, hBa.alloc hBa.size _⟩ ⟨Wa.heap.size, hBa.size, Try.cell_of (heap_alloc_new Wa _) rfl, Try.cell_of (heap_alloc_new Wa _) rfl, rfl⟩
        case body =>
          rintro l pre x a' Wa hl ⟨r, hr⟩ ⟨hi, hBa⟩ ⟨Bx, hBx, cx0, cx1, rfl⟩ hlt
          have e30 := (hBa.cell (p := ⟨w.heap.size + 1, 0, none⟩) (by show w.heap.size + 1 < _; omega)).trans d30
          have e40 := (hBa.cell (p := ⟨w.heap.size + 1 + 1, 0, none⟩) (by show w.heap.size + 1 + 1 < _; omega)).trans d40
          have e50 := (hBa.cell (p := ⟨w.heap.size + 1 + 1 + 1, 0, none⟩) (by show w.heap.size + 1 + 1 + 1 < _; omega)).trans d50
          have g40 : Wa.frozen? ⟨w.heap.size + 1 + 1, 0, none⟩ = false := Try.frz_of ((hBa.block _ (by omega)).trans k40)
          have g50 : Wa.frozen? ⟨w.heap.size + 1 + 1 + 1, 0, none⟩ = false := Try.frz_of ((hBa.block _ (by omega)).trans k50)
          by_cases hx : x.2.1 = at_
          · gi_wp2
            refine ⟨((KeepsOthers.setCell _ _ _).trans (KeepsOthers.setCell _ _ _)).from _, ⟨rfl, pre, x, rfl, hi, hx, ?_, ?_⟩, ?_⟩
            · rw [Try.cell_other (by omega)]
              exact World.cell?_setCell_same' _ _ _ (by rw [e40]; rfl)
            · exact World.cell?_setCell_same' _ _ _ (by rw [Try.cell_other (by omega), e50]; rfl)
            · exact ((hBw2.trans (hBa.mono (by omega))).setCell (p := ⟨w.heap.size + 1 + 1, 0, none⟩) (by show w.heap.size ≤ w.heap.size + 1 + 1; omega) _).setCell (p := ⟨w.heap.size + 1 + 1 + 1, 0, none⟩) (by show w.heap.size ≤ w.heap.size + 1 + 1 + 1; omega) _
          · gi_wp2
            exact ⟨KeepsFrom.refl _ _, Below.refl _ _, fun y hy => (List.mem_append.1 hy).elim (hi y) (fun e => by simp at e; subst e; exact hx), hBa⟩
        case done =>
          rintro D ys Wa hD rfl ⟨hne, hBa⟩ hK
          have e20 := (hBa.cell (p := ⟨w.heap.size, 0, none⟩) (by show w.heap.size < _; omega)).trans d20
          have e30 := (hBa.cell (p := ⟨w.heap.size + 1, 0, none⟩) (by show w.heap.size + 1 < _; omega)).trans d30
          have e40 := (hBa.cell (p := ⟨w.heap.size + 1 + 1, 0, none⟩) (by show w.heap.size + 1 + 1 < _; omega)).trans d40
          have e50 := (hBa.cell (p := ⟨w.heap.size + 1 + 1 + 1, 0, none⟩) (by show w.heap.size + 1 + 1 + 1 < _; omega)).trans d50
          have g40 : Wa.frozen? ⟨w.heap.size + 1 + 1, 0, none⟩ = false := Try.frz_of ((hBa.block _ (by omega)).trans k40)
          have g50 : Wa.frozen? ⟨w.heap.size + 1 + 1 + 1, 0, none⟩ = false := Try.frz_of ((hBa.block _ (by omega)).trans k50)
          have hpS' := hpS (by omega)
          subst hpS'
          have hsa : Wa.cell? ⟨bS, oS + at_.toNat, none⟩ = some (.string ⟨⟨sec at_.toNat⟩⟩) := ((hBw2.trans (hBa.mono (by omega))).cell (p := ⟨bS, oS + at_.toNat, none⟩) (hbS (by omega))).trans (hsec _ (by omega))
          gi_wp2
          have hK' := (((KeepsOthers.setCell Wa ⟨w.heap.size + 1 + 1, 0, none⟩ (.string ⟨⟨sec at_.toNat⟩⟩)).trans (KeepsOthers.setCell _ ⟨w.heap.size + 1 + 1 + 1, 0, none⟩ (.int .i64 0)))).same D _ hK rfl
          refine ⟨by simp, .inl ⟨_, _, rfl, run_takeDeferred hK', ?_⟩⟩
          have hc4 := cell_kept (show ((Wa.setCell ⟨w.heap.size + 1 + 1, 0, none⟩ (.string ⟨⟨sec at_.toNat⟩⟩)).setCell ⟨w.heap.size + 1 + 1 + 1, 0, none⟩ (.int .i64 0)).cell? ⟨w.heap.size + 1 + 1, 0, none⟩ = some (.string ⟨⟨sec at_.toNat⟩⟩) by
            rw [Try.cell_other (by omega)]; exact World.cell?_setCell_same' _ _ _ (by rw [e40]; rfl)) (grownBy_putObj' _ D (.deferred none)) (fun r e => by cases e; exact ⟨_, hK', rfl⟩)
          have hc5 := cell_kept (show ((Wa.setCell ⟨w.heap.size + 1 + 1, 0, none⟩ (.string ⟨⟨sec at_.toNat⟩⟩)).setCell ⟨w.heap.size + 1 + 1 + 1, 0, none⟩ (.int .i64 0)).cell? ⟨w.heap.size + 1 + 1 + 1, 0, none⟩ = some (.int .i64 0) from
            World.cell?_setCell_same' _ _ _ (by rw [Try.cell_other (by omega), e50]; rfl)) (grownBy_putObj' _ D (.deferred none)) (fun r e => by cases e; exact ⟨_, hK', rfl⟩)
          have hres := hresN (fun j hj => by
            have := hne (j, ws.getD j (0, [])) (by
              simp only [Try.wrs, List.mem_map, List.mem_range]
              exact ⟨ws.length - 1 - j, by omega, by rw [show ws.length - 1 - (ws.length - 1 - j) = j by omega]⟩)
            exact this) (by trivial) h0 h1
          subst hres
          refine ⟨.tuple #[.string ⟨⟨sec at_.toNat⟩⟩, .int .i64 0], ?_, ⟨_, _, rfl, rfl⟩, ((((hBw2.trans (hBa.mono (by omega))).setCell (p := ⟨w.heap.size + 1 + 1, 0, none⟩) (by show w.heap.size ≤ w.heap.size + 1 + 1; omega) _).setCell (p := ⟨w.heap.size + 1 + 1 + 1, 0, none⟩) (by show w.heap.size ≤ w.heap.size + 1 + 1 + 1; omega) _)).trans (belowK_b (w := w) (Nat.le_refl _) _ D _ _ (by omega) hK' rfl rfl)⟩
          simp [results, Try.f49, go_sem, hc4, hc5]
        case stop =>
          rintro D c pre Wa hD ⟨k, hk, rfl⟩ ⟨⟨rfl, ini, last, e1, e2, e3, h4, h5⟩, hBa⟩ hK
          gi_wp2
          refine ⟨by simp, .inl ⟨_, _, rfl, run_takeDeferred hK, ?_⟩⟩
          have hc4 := cell_kept h4 (grownBy_putObj' _ D (.deferred none)) (fun r e => by cases e; exact ⟨_, hK, rfl⟩)
          have hc5 := cell_kept h5 (grownBy_putObj' _ D (.deferred none)) (fun r e => by cases e; exact ⟨_, hK, rfl⟩)
          obtain ⟨k', rfl⟩ : ∃ k', k = k' + 1 := by
            cases k with
            | zero => simp [Try.wrs] at e1
            | succ k' => exact ⟨k', rfl⟩
          rw [Try.wrs_succ] at e1
          obtain ⟨rfl, e5⟩ := List.append_inj' e1 rfl
          obtain rfl : (ws.length - 1 - k', ws.getD (ws.length - 1 - k') (0, [])) = last := by simpa using e5
          have hres := hresH (ws.length - 1 - k') (by omega) (fun j hj hjl => by
            have := e2 (j, ws.getD j (0, [])) (by
              simp only [Try.wrs, List.mem_map, List.mem_range]
              exact ⟨ws.length - 1 - j, by omega, by rw [show ws.length - 1 - (ws.length - 1 - j) = j by omega]⟩)
            exact this) e3 (by trivial) h0 h1
          subst hres
          refine ⟨.tuple #[.string ⟨⟨(ws.getD (ws.length - 1 - k') (0, [])).2⟩⟩, .int .i64 0], ?_, ⟨_, _, rfl, rfl⟩, hBa.trans (belowK_b (w := w) (Nat.le_refl _) Wa D _ _ (by omega) hK rfl rfl)⟩
          simp [results, Try.f49, go_sem, hc4, hc5]
end Go.Proofs
