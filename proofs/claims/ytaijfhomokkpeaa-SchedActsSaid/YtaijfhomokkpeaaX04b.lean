/-
  Chapter 3's seat: slices.Backward of writes (its iterator's contract).
-/
import Derived.RangeFuncBox
import Derived.RangeFuncLeaves
import Derived.Shelf.Abstract
import Derived.WalkKit
import Derived.OwnWalkIn
import Derived.TacticsInMore
import Derived.LoopNIn
import Derived.LoopIn
import Derived.Test.YtaijfhomokkpeaaChecked
set_option linter.unusedSimpArgs false
set_option maxHeartbeats 8000000
set_option maxRecDepth 100000
set_option linter.unusedVariables false
namespace Go.Proofs
open Go.RowKit Go.Shelf
attribute [local go_sem] Oper.semAt_some
def Try.wrs (ws : List (Int × List UInt8)) (k : Nat) : List (Nat × Int × List UInt8) := (List.range k).map fun j => (ws.length - 1 - j, ws.getD (ws.length - 1 - j) (0, []))
theorem Try.wrs_succ (ws : List (Int × List UInt8)) (k : Nat) : Try.wrs ws (k + 1) = Try.wrs ws k ++ [(ws.length - 1 - k, ws.getD (ws.length - 1 - k) (0, []))] := by simp [Try.wrs, List.range_succ]
theorem Try.wrs_len (ws : List (Int × List UInt8)) (k : Nat) : (Try.wrs ws k).length = k := by simp [Try.wrs]
def Try.encW (x : Nat × Int × List UInt8) : Array Value := #[.int .i64 (x.1 : Int), .agg #[.int .i64 x.2.1, .string ⟨⟨x.2.2⟩⟩]]
set_option maxRecDepth 100000 in
set_option maxHeartbeats 4000000 in
theorem Try.back1_in (F : Fence) (n : Nat) (h8 : F.fn 93) (hro : F.round = none) (hn : 1 ≤ n) (l Bs n₀ b off cap : Nat) (p : Option Addr) (ws : List (Int × List UInt8)) (hreach : ws.length ≤ 1000000) (hb' : 0 < ws.length → b < n₀) (J Jx : List (Nat × Int × List UInt8) → World → Prop)
    (hp : 0 < ws.length → p = some ⟨b, off, none⟩)
    (hY : ∀ pre x W, J pre W → pre.length < ws.length → YieldAt F (n - 1) Try.prog l (Try.encW x) W fun e W' =>
      (e = .returned (.bool true) ∧ J (pre ++ [x]) W' ∧ Below n₀ W W') ∨ (e = .returned (.bool false) ∧ Jx (pre ++ [x]) W'))
    (W : World) (hBs : W.cell? ⟨Bs, 0, none⟩ = some (.slice p ws.length cap)) (hBs0 : Bs < n₀)
    (hc : ∀ j, j < ws.length → W.cell? ⟨b, off + j * 2, none⟩ = some (.int .i64 (ws.getD j (0, [])).1) ∧ W.cell? ⟨b, off + j * 2 + 1, none⟩ = some (.string ⟨⟨(ws.getD j (0, [])).2⟩⟩)) (h0 : J [] W) :
    CallsIn F n Try.prog 93 #[.func (.yield l) #[] #[], .pointer (some ⟨Bs, 0, none⟩)] W fun e W' => (∃ v, e = .returned v) ∧
      ((∃ ys, ys = Try.wrs ws ws.length ∧ J ys W') ∨ (∃ pre, (∃ k, k ≤ ws.length ∧ pre = Try.wrs ws k) ∧ Jx pre W')) := by
  refine callsIn_of_wp Try.func93 rfl h8 ?_ hro
  simp only [Try.ntmps93, List.size_toArray, List.length_cons, List.length_nil, Nat.reduceAdd, Nat.reduceSub, Array.replicate_succ, Array.replicate_zero, List.push_toArray, List.append_toArray, List.nil_append, List.cons_append]
  gi_wp2
  gi_loopw [3] (fun i wr => ∃ k : Nat, k ≤ ws.length ∧ i = .int .i64 ((ws.length : Int) - 1 - k) ∧ J (Try.wrs ws k) wr ∧ Below n₀ W wr)
    (fun i _ => (intOf i + 1).toNat)
  case atStart => exact ⟨0, Nat.zero_le _, by simp, h0, Below.refl _ _⟩
  case round =>
    obtain ⟨k, hk, rfl, hJs, hnx⟩ := hrel
    have hBx : wr.cell? ⟨Bs, 0, none⟩ = some (.slice p ws.length cap) := (hnx.cell (p := ⟨Bs, 0, none⟩) hBs0).trans hBs
    by_cases hlt : k < ws.length
    · obtain ⟨m, hm⟩ : ∃ m, m = ws.length - 1 - k := ⟨_, rfl⟩
      have hmi : (ws.length : Int) - 1 - k = (m : Int) := by omega
      have hml : m < ws.length := by omega
      have hp' := hp (by omega)
      have hb := hb' (by omega)
      subst hp'
      have hc0 := (hnx.cell (p := ⟨b, off + m * 2, none⟩) hb).trans (hc m hml).1
      have hc1 := (hnx.cell (p := ⟨b, off + m * 2 + 1, none⟩) hb).trans (hc m hml).2
      have hmk : m + k + 1 = ws.length := by omega
      have hJs' : J (Try.wrs ws k) wr := hJs
      have hwk : Try.wrs ws (k + 1) = Try.wrs ws k ++ [(m, ws.getD m (0, []))] := by rw [Try.wrs_succ, hm]
      clear hm
      obtain ⟨x, hx⟩ : ∃ x, x = ws.getD m (0, []) := ⟨_, rfl⟩
      rw [← hx] at hc0 hc1 hwk
      clear hx
      have hld : (loadVar 124 ⟨b, off + m * 2, none⟩).run Try.prog wr = .ok (.agg #[.int .i64 x.1, .string ⟨⟨x.2⟩⟩]) wr := by
        have hl := run_loadCells (P := Try.prog) wr ⟨b, off + m * 2, none⟩ 2 (fun j => if j = 0 then .int .i64 x.1 else .string ⟨⟨x.2⟩⟩) (fun j hj => by
          rcases (show j = 0 ∨ j = 1 by omega) with rfl | rfl
          · simpa [Addr.add] using hc0
          · simpa [Addr.add] using hc1)
        unfold loadVar
        simp [go_sem, hc0, hc1, List.range_succ]
      rw [hmi]
      obtain ⟨fn, tmps, assign, body, hy, hR⟩ := hY _ (m, x) wr hJs (by rw [Try.wrs_len]; exact hlt)
      dsimp only [Try.encW] at hy
      gi_wp2
      refine hR.mono ?_
      rintro e W3 (⟨rfl, hJ3, hk3⟩ | ⟨rfl, hJx3⟩)
      · gi_wp2
        go_roundw
        case rel => exact ⟨k + 1, by omega, by simp <;> omega, by rw [hwk]; exact hJ3, hnx.trans hk3⟩
        case measure => simp [intOf] <;> omega
      · gi_wp2
        refine bodyPost_ret (results_none rfl _ _ _) rfl ?_
        exact ⟨⟨_, rfl⟩, .inr ⟨_, ⟨k + 1, by omega, hwk.symm⟩, hJx3⟩⟩
    · obtain rfl : k = ws.length := by omega
      gi_wp2
      go_end0
      exact ⟨⟨_, rfl⟩, .inl ⟨_, rfl, hJs⟩⟩
def Try.Wrs (n₀ : Nat) (W : World) (sv : Value) (ws : List (Int × List UInt8)) : Prop :=
  ∃ p cap b off, sv = .slice p ws.length cap ∧ (0 < ws.length → p = some ⟨b, off, none⟩) ∧ (0 < ws.length → b < n₀) ∧
    ∀ j, j < ws.length → W.cell? ⟨b, off + j * 2, none⟩ = some (.int .i64 (ws.getD j (0, [])).1) ∧ W.cell? ⟨b, off + j * 2 + 1, none⟩ = some (.string ⟨⟨(ws.getD j (0, [])).2⟩⟩)
theorem Try.Wrs.below {n₀ : Nat} {A B : World} (h : Below n₀ A B) {sv : Value} {ws : List (Int × List UInt8)} : Try.Wrs n₀ A sv ws → Try.Wrs n₀ B sv ws :=
  fun ⟨p, cap, b, off, e, hp, hb, hc⟩ => ⟨p, cap, b, off, e, hp, hb, fun j hj => ⟨(h.cell (p := ⟨b, off + j * 2, none⟩) (hb (by omega))).trans (hc j hj).1, (h.cell (p := ⟨b, off + j * 2 + 1, none⟩) (hb (by omega))).trans (hc j hj).2⟩⟩
set_option maxHeartbeats 1000000 in
theorem Try.back_in (F : Fence) (n : Nat) (h6 : F.fn 78) (hro : F.round = none) (a : Option Addr) (len cap : Nat) (w : World) :
    CallsIn F n Try.prog 78 #[.slice a len cap] w fun e w' => e = .returned (.func (.func 93) #[] #[.pointer (some ⟨w.heap.size, 0, none⟩)]) ∧ w' = w.alloc (.cells #[.slice a len cap] 23) := by
  refine callsIn_of_wp Try.func78 rfl h6 ?_ hro
  simp only [Try.ntmps78, List.size_toArray, List.length_cons, List.length_nil, Nat.reduceAdd, Nat.reduceSub, Array.replicate_succ, Array.replicate_zero, List.push_toArray, List.append_toArray, List.nil_append, List.cons_append]
  gi_wp2
  go_ret
  exact ⟨rfl, rfl⟩
theorem Try.back_stops (F : Fence) (n : Nat) (h8 : F.fn 93) (hro : F.round = none) (hn : 1 ≤ n) (Bs n₀ : Nat) (sv : Value) (ws : List (Int × List UInt8)) (hreach : ws.length ≤ 1000000) (w : World) (hBs : Bs < n₀) (hn₀ : n₀ ≤ w.heap.size)
    (hc : w.cell? ⟨Bs, 0, none⟩ = some sv) (hI : Try.Wrs n₀ w sv ws) :
    SeqStopsK F n Try.prog 93 #[.pointer (some ⟨Bs, 0, none⟩)] Try.encW (Below n₀) (fun ys => ys = Try.wrs ws ws.length)
      (fun pre => ∃ k, k ≤ ws.length ∧ pre = Try.wrs ws k) ws.length w := fun l J Jx W hW _ _ hY h0 => by
  have hc' := (hW.cell (p := ⟨Bs, 0, none⟩) (by show Bs < _; omega)).trans hc
  obtain ⟨p, cap, b, off, rfl, hp, hb, hcs⟩ := hI.below (hW.mono hn₀)
  exact Try.back1_in F n h8 hro hn l Bs n₀ b off cap p ws hreach hb J Jx hp hY W hc' hBs hcs h0
end Go.Proofs
