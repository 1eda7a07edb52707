/-
  Chapter 12: a repair, and a repair cut off, with no program in sight.
-/
import Derived.Test.YtihjalnebgjmgaaW12q
import Derived.Test.YtihjalnebgjmgaaW12e
namespace Lk.S12
open Go Lk Lk.S03

theorem Calm.small {d : Dsk} (h : Calm d) : Small d := h.r.small
theorem Calm.crash {d : Dsk} {keep : List Int} (h : Calm d) : d.crash keep = d := crash_calm h.r h.c
theorem recover_zs {d : Dsk} (h : d.read 0 = zs) : recover d = d := by unfold recover; rw [repair_zs h]; rfl
theorem recover_head {d : Dsk} {n : Nat} (h : Calm d) (h1 : 1 ≤ n) (h2 : n ≤ 16) (h0 : d.read 0 = headL n) :
    Calm (recover d) ∧ ∀ i, i < 35 → (recover d).read i = if i = 0 then zs else if i = 2 * n + 1 then d.read 1 else if i = 2 * n + 2 then d.read 2 else d.read i := by
  have hrep := repair_head h.usable h1 h2 h0
  have l1 := read_len (i := 1) h.r (by rw [h.n]; decide)
  have l2 := read_len (i := 2) h.r (by rw [h.n]; decide)
  have ho := rep_ok (n := n) (a := d.read 1) (b := d.read 2) h2 l1 l2
  have hlen : (halves (home n) (d.read 1) (d.read 2) ++ topL zs).length = 5 := rfl
  obtain ⟨a, b, c⟩ := runL_all (l := halves (home n) (d.read 1) (d.read 2) ++ topL zs) h.r (by rw [h.n]; exact ho) (by rw [h.c, hlen]; decide)
  unfold recover
  rw [hrep]
  refine ⟨⟨a, b.trans h.n, ?_⟩, fun i hi => by rw [c i (by rw [h.n]; exact hi), rep_read]⟩
  have e : halves (home n) (d.read 1) (d.read 2) ++ topL zs = (halves (home n) (d.read 1) (d.read 2) ++ topL zs).take 4 ++ [⟨true, ⟨0, []⟩⟩] := rfl
  rw [e]
  exact runL_calm (runL_all h.r (by rw [h.n]; exact ho.take) (by rw [h.c, List.length_take]; simp; omega)).1 rfl

/-- The pages as they were, but that page n may be a and b; nothing to repair. -/
structure Old (f r : Nat → List UInt8) (n : Nat) (a b : List UInt8) : Prop where
  z : r 0 = zs
  oth : ∀ q, 1 ≤ q → q ≤ 16 → q ≠ n → At r q (f (2 * q + 1)) (f (2 * q + 2))
  st : At r n (f (2 * n + 1)) (f (2 * n + 2)) ∨ At r n a b

theorem Inv.recover {f : Nat → List UInt8} {d : Dsk} {n : Nat} {a b : List UInt8} (h : Calm d) (h1 : 1 ≤ n) (h2 : n ≤ 16) (I : Inv f d.read n a b) : Calm (recover d) ∧ Old f (recover d).read n a b := by
  rcases I.st with ⟨h0, hs⟩ | ⟨h0, ha, hb⟩
  · rw [recover_zs h0]; exact ⟨h, h0, I.oth, hs⟩
  · obtain ⟨hc, hr⟩ := recover_head h h1 h2 h0
    refine ⟨hc, by rw [hr 0 (by omega), if_pos rfl], fun q q1 q2 qn => ?_, .inr ?_⟩
    · have := I.oth q q1 q2 qn
      unfold At at this ⊢
      rw [hr _ (by omega), hr _ (by omega), if_neg (by omega), if_neg (by omega), if_neg (by omega), if_neg (by omega), if_neg (by omega), if_neg (by omega)]
      exact this
    · unfold At
      rw [hr _ (by omega), hr _ (by omega), if_neg (by omega), if_pos rfl, if_neg (by omega), if_neg (by omega), if_pos rfl]
      exact ⟨ha, hb⟩

theorem rep_cut {f : Nat → List UInt8} {d : Dsk} {n k : Nat} {a b : List UInt8} {keep : List Int} (h : Calm d) (h1 : 1 ≤ n) (h2 : n ≤ 16) (I : Inv f d.read n a b) :
    Calm ((runL d ((repair d).take k)).crash keep) ∧ Inv f ((runL d ((repair d).take k)).crash keep).read n a b := by
  rcases I.st with ⟨h0, hs⟩ | ⟨h0, ha, hb⟩
  · rw [repair_zs h0, List.take_nil, show runL d [] = d from rfl, h.crash]; exact ⟨h, I⟩
  · have l1 := read_len (i := 1) h.r (by rw [h.n]; decide)
    have l2 := read_len (i := 2) h.r (by rw [h.n]; decide)
    rw [repair_head h.usable h1 h2 h0]
    rw [ha] at l1
    rw [hb] at l2
    rw [ha, hb]
    have hp := rep_ok (n := n) (a := a) (b := b) h2 l1 l2
    have hlen : (halves (home n) a b ++ topL zs).length = 5 := rfl
    generalize hR : halves (home n) a b ++ topL zs = R at *
    have key : ∀ m j : Nat, m + j ≤ 5 → (∀ o ∈ (R.drop m).take j, o.sync = false) → (runL d (R.take m)).cache = [] →
        Calm ((runL d (R.take (m + j))).crash keep) ∧ ∀ i, i < 35 → ((runL d (R.take (m + j))).crash keep).read i = rdO (R.take m) i (d.read i) ∨
          ∃ o ∈ (R.drop m).take j, o.w.at_ = (i : Int) ∧ ((runL d (R.take (m + j))).crash keep).read i = o.w.data := fun m j hmj hs hc => by
      have := crash_run (l := R.take m) (m := (R.drop m).take j) (keep := keep) h.r h.n hp.take (fun o ho => hp o (List.mem_of_mem_drop (List.mem_of_mem_take ho)))
        (by rw [h.c, List.length_take, List.length_take, List.length_drop, hlen]; simp; omega) hs hc
      rw [← List.take_add] at this
      exact this
    have calm : ∀ m o, R.take (m + 1) = R.take m ++ [o] → o.sync = true → (runL d (R.take (m + 1))).cache = [] := fun m o e hs => by
      rw [e]
      exact runL_calm (runL_all h.r (by rw [h.n]; exact hp.take) (by rw [h.c, List.length_take, hlen]; simp; omega)).1 hs
    have c0 : (runL d (R.take 0)).cache = [] := h.c
    have c3 : (runL d (R.take 3)).cache = [] := calm 2 ⟨true, ⟨0, []⟩⟩ (by subst hR; rfl) rfl
    have c5 : (runL d (R.take 5)).cache = [] := calm 4 ⟨true, ⟨0, []⟩⟩ (by subst hR; rfl) rfl
    have hk : R.take k = R.take (min k 5) := by
      rcases Nat.le_total k 5 with h | h
      · rw [Nat.min_eq_left h]
      · rw [Nat.min_eq_right h, List.take_of_length_le (by rw [hlen]; exact h), List.take_of_length_le (by rw [hlen]; exact Nat.le_refl _)]
    rw [hk]
    have hmk : min k 5 ≤ 5 := Nat.min_le_right _ _
    generalize min k 5 = z at *
    have fin : ∀ m j : Nat, z = m + j → ((m = 0 ∧ j = 0) ∨ (m = 0 ∧ j = 1) ∨ (m = 0 ∧ j = 2) ∨ (m = 3 ∧ j = 0) ∨ (m = 3 ∧ j = 1) ∨ (m = 5 ∧ j = 0)) → (∀ o ∈ (R.drop m).take j, o.sync = false) → (runL d (R.take m)).cache = [] →
        Calm ((runL d (R.take z)).crash keep) ∧ Inv f ((runL d (R.take z)).crash keep).read n a b := fun m j e hmj hs hc => by
      subst e
      obtain ⟨k1, k2⟩ := key m j hmk hs hc
      rw [← hR] at k2 ⊢
      obtain ⟨k3, k4⟩ := rep_inv h0 ha hb h1 h2 _ m j hmj k2
      refine ⟨by rw [← hR] at k1; exact k1, fun q q1 q2 qn => ?_, k4.imp (fun x => ⟨x.1, .inr x.2⟩) id⟩
      have x := k3 q q1 q2 qn
      have y := I.oth q q1 q2 qn
      exact ⟨x.1.trans y.1, x.2.trans y.2⟩
    rcases (show z = 0 ∨ z = 1 ∨ z = 2 ∨ z = 3 ∨ z = 4 ∨ z = 5 by omega) with rfl | rfl | rfl | rfl | rfl | rfl
    · exact fin 0 0 rfl (by omega) (by intro o ho; simp at ho) c0
    · exact fin 0 1 rfl (by omega) (by rw [← hR, rep_eq]; simp) c0
    · exact fin 0 2 rfl (by omega) (by rw [← hR, rep_eq]; simp) c0
    · exact fin 3 0 rfl (by omega) (by intro o ho; simp at ho) c3
    · exact fin 3 1 rfl (by omega) (by rw [← hR, rep_eq]; simp) c3
    · exact fin 5 0 rfl (by omega) (by intro o ho; simp at ho) c5

/-- What the statement asks of a disk behind a crash. -/
def oldP (d was : Dsk) (p : Nat) (data : List UInt8) : Prop :=
  d.secs.length = 35 ∧ d.cache = [] ∧ d.secs.getD 0 [] = was.secs.getD 0 [] ∧ ∀ q : Nat, 1 ≤ q → q ≤ 16 → (get d q).2 = 0 ∧ ((get d q).1 = was.secs.getD (2 * q + 1) [] ++ was.secs.getD (2 * q + 2) [] ∨ (q = p ∧ (get d q).1 = data))

theorem get_calm {d : Dsk} {q : Nat} (h : Calm d) (h1 : 1 ≤ q) (h2 : q ≤ 16) : get d q = (getS d q, 0) := if_pos ⟨h.usable, by unfold valid; omega⟩

theorem Old.p {d was : Dsk} {n : Nat} {data : List UInt8} (hc : Calm d) (hw : Calm was) (h1 : 1 ≤ n) (h2 : n ≤ 16) (hz : was.read 0 = zs) (h : Old was.read d.read n (data.take 16) (data.drop 16)) : oldP d was n data := by
  refine ⟨hc.n, hc.c, ?_, fun q q1 q2 => ?_⟩
  · rw [← read_calm hc.c, ← read_calm hw.c, h.z, hz]
  · rw [get_calm hc q1 q2]
    refine ⟨rfl, ?_⟩
    rw [← read_calm hw.c, ← read_calm hw.c]
    show getS d q = _ ∨ _ ∧ getS d q = _
    unfold getS
    by_cases e : q = n
    · subst e
      rcases h.st with x | x
      · left; rw [x.1, x.2]
      · right; refine ⟨rfl, ?_⟩; rw [x.1, x.2]; exact List.take_append_drop 16 data
    · left
      have x := h.oth q q1 q2 e
      rw [x.1, x.2]
end Lk.S12
