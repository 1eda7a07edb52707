/-
  Chapter 3: disks, as Lean data.
-/
import Derived.Test.YtihjalnebgjmgaaLkC
namespace Lk.S03
open Go Lk

structure Wr where
  at_ : Int
  data : List UInt8
deriving DecidableEq
instance : Inhabited Wr := ⟨⟨0, []⟩⟩
structure Dsk where
  secs : List (List UInt8)
  cache : List Wr
deriving DecidableEq

def strE (s : List UInt8) (_ : Nat) : Cell := .str s
def wrE (w : Wr) (j : Nat) : Cell :=
  match j with
  | 0 => .int .i64 w.at_
  | _ => .str w.data
def dskE (d : Dsk) (j : Nat) : Cell :=
  match j with
  | 0 => slL 1 strE d.secs
  | _ => slL 2 wrE d.cache
def fits (d : Dsk) (w : Wr) : Prop := 0 ≤ w.at_ ∧ w.at_ < d.secs.length ∧ w.data.length = 16
instance (d : Dsk) (w : Wr) : Decidable (fits d w) := by unfold fits; infer_instance
def right (d : Dsk) : Prop := 1 ≤ d.secs.length ∧ d.secs.length ≤ 64 ∧ d.cache.length ≤ 200 ∧ (∀ s ∈ d.secs, s.length = 16) ∧ ∀ w ∈ d.cache, fits d w
instance (d : Dsk) : Decidable (right d) := by unfold right; infer_instance

/-- What a sector reads, behind writes. -/
def rdL (l : List Wr) (at_ : Int) (s : List UInt8) : List UInt8 := l.foldl (fun s w => if w.at_ = at_ then w.data else s) s
def Dsk.read (d : Dsk) (i : Nat) : List UInt8 := rdL d.cache (i : Int) (d.secs.getD i [])
/-- What Read answers. -/
def Dsk.rd (d : Dsk) (at_ : Int) : List UInt8 × Int := if right d ∧ 0 ≤ at_ ∧ at_ < d.secs.length then (d.read at_.toNat, 0) else ([], 1)

theorem rdL_none {l : List Wr} {at_ : Int} {s : List UInt8} (h : ∀ w ∈ l, w.at_ ≠ at_) : rdL l at_ s = s := by
  induction l generalizing s with
  | nil => rfl
  | cons w l ih =>
    show rdL l at_ (if w.at_ = at_ then w.data else s) = s
    rw [if_neg (h w (by simp))]
    exact ih fun x hx => h x (by simp [hx])

theorem rdL_hit {l : List Wr} {at_ : Int} {s : List UInt8} {k : Nat} (hk : k < l.length) (ha : (l.getD k default).at_ = at_) (h : ∀ j, k < j → j < l.length → (l.getD j default).at_ ≠ at_) : rdL l at_ s = (l.getD k default).data := by
  have h1 : l = l.take k ++ l.getD k default :: l.drop (k + 1) := by
    rw [getD_eq hk]; simp
  conv => lhs; rw [h1]
  unfold rdL
  rw [List.foldl_append, List.foldl_cons, if_pos ha]
  refine rdL_none fun w hw => ?_
  obtain ⟨i, hi, rfl⟩ := List.mem_iff_getElem.1 hw
  have hl : k + 1 + i < l.length := by simp at hi; omega
  have := h (k + 1 + i) (by omega) hl
  rw [getD_eq hl] at this
  rw [List.getElem_drop]; exact this

def EWr : Enc Wr where
  sh := [.int .i64, .str]
  enc := wrE
  wf w := w.data.length ≤ 9223372036854775807
  dec g h := by
    obtain ⟨a, ha, _⟩ := (h 0 _ rfl).intE
    obtain ⟨b, hb, hl⟩ := (h 1 _ rfl).strE
    refine ⟨⟨a, b⟩, hl, fun j hj => ?_⟩
    have hj : j < 2 := hj
    rcases (show j = 0 ∨ j = 1 by omega) with rfl | rfl
    · rw [ha]; exact CEq.refl _
    · rw [hb]; exact CEq.refl _

def EDsk : Enc Dsk where
  sh := [.sl EStr.sh, .sl EWr.sh]
  enc := dskE
  wf d := d.secs.length ≤ 9223372036854775807 ∧ d.cache.length ≤ 9223372036854775807 ∧ (∀ s ∈ d.secs, s.length ≤ 9223372036854775807) ∧ ∀ w ∈ d.cache, w.data.length ≤ 9223372036854775807
  dec g h := by
    obtain ⟨l, hw, hl, he⟩ := EStr.list (h 0 _ rfl)
    obtain ⟨m, hw', hm, he'⟩ := EWr.list (h 1 _ rfl)
    refine ⟨⟨l, m⟩, ⟨hl, hm, hw, hw'⟩, fun j hj => ?_⟩
    have hj : j < 2 := hj
    rcases (show j = 0 ∨ j = 1 by omega) with rfl | rfl
    · exact he
    · exact he'
end Lk.S03
