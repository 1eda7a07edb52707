/-
  Gs03a: what these chapters need.
-/
import Derived.Test.YtaijfhomokkpeaaLkC
import Derived.Test.YtaijfhomokkpeaaCCb
set_option linter.unusedSimpArgs false
set_option maxHeartbeats 8000000
set_option maxRecDepth 100000
set_option linter.unusedVariables false
namespace Lk.S03
open Go Lk
structure Wr where
  at_ : Int
  data : List UInt8
deriving DecidableEq
instance : Inhabited Wr := ⟨⟨0, []⟩⟩
structure Dsk where
  secs : List (List UInt8)
  cache : List Wr
deriving DecidableEq
def strE (s : List UInt8) (_ : Nat) : Cell := .str s
def wrE (w : Wr) (j : Nat) : Cell :=
  match j with
  | 0 => .int .i64 w.at_
  | _ => .str w.data
def dskE (d : Dsk) (j : Nat) : Cell :=
  match j with
  | 0 => slL 1 strE d.secs
  | _ => slL 2 wrE d.cache
def fits (d : Dsk) (w : Wr) : Prop := 0 ≤ w.at_ ∧ w.at_ < d.secs.length ∧ w.data.length = 16
instance (d : Dsk) (w : Wr) : Decidable (fits d w) := by unfold fits; infer_instance
def right (d : Dsk) : Prop := 1 ≤ d.secs.length ∧ d.secs.length ≤ 64 ∧ d.cache.length ≤ 200 ∧ (∀ s ∈ d.secs, s.length = 16) ∧ ∀ w ∈ d.cache, fits d w
instance (d : Dsk) : Decidable (right d) := by unfold right; infer_instance
def rdL (l : List Wr) (at_ : Int) (s : List UInt8) : List UInt8 := l.foldl (fun s w => if w.at_ = at_ then w.data else s) s
def Dsk.read (d : Dsk) (i : Nat) : List UInt8 := rdL d.cache (i : Int) (d.secs.getD i [])
def Dsk.rd (d : Dsk) (at_ : Int) : List UInt8 × Int := if right d ∧ 0 ≤ at_ ∧ at_ < d.secs.length then (d.read at_.toNat, 0) else ([], 1)
theorem rdL_none {l : List Wr} {at_ : Int} {s : List UInt8} (h : ∀ w ∈ l, w.at_ ≠ at_) : rdL l at_ s = s := by
  induction l generalizing s with
  | nil => rfl
  | cons w l ih =>
    show rdL l at_ (if w.at_ = at_ then w.data else s) = s
    rw [if_neg (h w (by simp))]
    exact ih fun x hx => h x (by simp [hx])
theorem rdL_hit {l : List Wr} {at_ : Int} {s : List UInt8} {k : Nat} (hk : k < l.length) (ha : (l.getD k default).at_ = at_) (h : ∀ j, k < j → j < l.length → (l.getD j default).at_ ≠ at_) : rdL l at_ s = (l.getD k default).data := by
  have h1 : l = l.take k ++ l.getD k default :: l.drop (k + 1) := by
    rw [getD_eq hk]; simp
  conv => lhs; rw [h1]
  unfold rdL
  rw [List.foldl_append, List.foldl_cons, if_pos ha]
  refine rdL_none fun w hw => ?_
  obtain ⟨i, hi, rfl⟩ := List.mem_iff_getElem.1 hw
  have hl : k + 1 + i < l.length := by simp at hi; omega
  have := h (k + 1 + i) (by omega) hl
  rw [getD_eq hl] at this
  rw [List.getElem_drop]; exact this
def EWr : Enc Wr where
  sh := [.int .i64, .str]
  enc := wrE
  wf w := w.data.length ≤ 9223372036854775807
  dec g h := by
    obtain ⟨a, ha, _⟩ := (h 0 _ rfl).intE
    obtain ⟨b, hb, hl⟩ := (h 1 _ rfl).strE
    refine ⟨⟨a, b⟩, hl, fun j hj => ?_⟩
    have hj : j < 2 := hj
    rcases (show j = 0 ∨ j = 1 by omega) with rfl | rfl
    · rw [ha]; exact CEq.refl _
    · rw [hb]; exact CEq.refl _
def EDsk : Enc Dsk where
  sh := [.sl EStr.sh, .sl EWr.sh]
  enc := dskE
  wf d := d.secs.length ≤ 9223372036854775807 ∧ d.cache.length ≤ 9223372036854775807 ∧ (∀ s ∈ d.secs, s.length ≤ 9223372036854775807) ∧ ∀ w ∈ d.cache, w.data.length ≤ 9223372036854775807
  dec g h := by
    obtain ⟨l, hw, hl, he⟩ := EStr.list (h 0 _ rfl)
    obtain ⟨m, hw', hm, he'⟩ := EWr.list (h 1 _ rfl)
    refine ⟨⟨l, m⟩, ⟨hl, hm, hw, hw'⟩, fun j hj => ?_⟩
    have hj : j < 2 := hj
    rcases (show j = 0 ∨ j = 1 by omega) with rfl | rfl
    · exact he
    · exact he'
end Lk.S03
namespace Lk.S03
open Go Lk Lk.C
theorem ceq_nil {a b : Nat} {f g : Nat → Nat → Cell} : CEq (.sl a 0 f) (.sl b 0 g) := ⟨_, _, rfl, fun h => absurd h (Nat.lt_irrefl 0)⟩
section
variable {P : Program} {F : Nat → Nat}
theorem sl_Clone_api_Write_ok {P : Program} {F : Nat → Nat} (hm : P.follows .mixedOrders = true) (hk : sl_Clone_api_Write_k P F) (n : Nat) (f : Nat → Nat → Cell) (hn : n ≤ 1000000) : FnOk P (F 52) [.one (.sl 2 n f)] [.one (.ow 2 n f)] := by
  refine fnOk hm hk ?_
  repeat' first | (with_reducible first | refine wkI ?_ | exact ⟨⟩ | refine wkB (fun _ => ?_) fun _ => ?_ | refine wkT (fun _ => ?_) ?_ | (refine Need.mk ?_ ?_; (first | assumption | omega | with_reducible exact CEq.refl _ | exact ⟨rfl, rfl⟩ | exact Nat.zero_add _ | exact (Nat.zero_add _).symm | exact ⟨rfl, Nat.le_refl _, (Nat.zero_add _).symm⟩ | exact appC_zero))) | ((with_reducible fail_if_success first | constructor | show False); conv => whnf)
theorem sl_Clone_string_ok {P : Program} {F : Nat → Nat} (hm : P.follows .mixedOrders = true) (hk : sl_Clone_string_k P F) (n : Nat) (f : Nat → Nat → Cell) (hn : n ≤ 1000000) : FnOk P (F 55) [.one (.sl 1 n f)] [.one (.ow 1 n f)] := by
  refine fnOk hm hk ?_
  repeat' first | (with_reducible first | refine wkI ?_ | exact ⟨⟩ | refine wkB (fun _ => ?_) fun _ => ?_ | refine wkT (fun _ => ?_) ?_ | (refine Need.mk ?_ ?_; (first | assumption | omega | with_reducible exact CEq.refl _ | exact ⟨rfl, rfl⟩ | exact Nat.zero_add _ | exact (Nat.zero_add _).symm | exact ⟨rfl, Nat.le_refl _, (Nat.zero_add _).symm⟩ | exact appC_zero))) | ((with_reducible fail_if_success first | constructor | show False); conv => whnf)
theorem fits_ok (hm : P.follows .mixedOrders = true) (hk : disk_fits_k P F) (d : Dsk) (w : Wr) (hl : d.secs.length ≤ 1000000000) (hw : w.data.length ≤ 1000000000) :
    FnOk P (F 51) [.many 2 (dskE d), .many 2 (wrE w)] [.one (.im (.bool (decide (fits d w))))] := by
  refine fnOk hm hk ?_
  repeat' first | (with_reducible first | refine wkI ?_ | exact ⟨⟩ | refine wkB (fun _ => ?_) fun _ => ?_ | refine wkT (fun _ => ?_) ?_ | (refine Need.mk ?_ ?_; (first | omega | with_reducible exact CEq.refl _))) | ((with_reducible fail_if_success first | constructor | show False); conv => whnf)
  refine Need.mk (eB ?_) ?_
  · rw [Bool.eq_iff_iff]
    simp only [Bool.and_eq_true, decide_eq_true_eq]
    constructor
    · rintro ⟨⟨a, b⟩, c⟩; exact ⟨a, b, by omega⟩
    · rintro ⟨a, b, c⟩; exact ⟨⟨a, b⟩, by omega⟩
  · repeat' first | (with_reducible first | refine wkI ?_ | exact ⟨⟩ | refine wkB (fun _ => ?_) fun _ => ?_ | refine wkT (fun _ => ?_) ?_ | refine wkF ?_) | ((with_reducible fail_if_success first | constructor | show False); conv => whnf)
def newD (n : Int) : Dsk := if 1 ≤ n ∧ n ≤ 64 then ⟨List.replicate n.toNat (List.replicate 16 0), []⟩ else ⟨[], []⟩
def newE (n : Int) : Int := if 1 ≤ n ∧ n ≤ 64 then 0 else 1
theorem new_ok (hm : P.follows .mixedOrders = true) (hk : disk_New_k P F) (n : Int) (hrep : FnOk P (F 49) [.one (.str [0]), .one (.int .i64 16)] [.one (.im (.str (List.replicate 16 0)))]) :
    FnOk P (F 28) [.one (.int .i64 n)] [.many 2 (fun j => .im (dskE (newD n) j)), .one (.im (.int .i64 (newE n)))] := by
  refine fnOk hm hk ?_
  repeat' first | (with_reducible first | refine wkI ?_ | exact ⟨⟩ | refine wkB (fun _ => ?_) fun _ => ?_ | refine wkT (fun _ => ?_) ?_ | (refine Need.mk ?_ ?_; (first | omega | with_reducible exact CEq.refl _))) | ((with_reducible fail_if_success first | constructor | show False); conv => whnf)
  · rename_i h
    simp only [Bool.or_eq_true, decide_eq_true_eq] at h
    have h1 : newD n = ⟨[], []⟩ := by unfold newD; rw [if_neg (by omega)]
    have h2 : newE n = 1 := by unfold newE; rw [if_neg (by omega)]
    rw [h1, h2]
    refine Need.mk ceq_nil ?_
    repeat' first | (with_reducible first | refine wkI ?_ | exact ⟨⟩ | refine wkB (fun _ => ?_) fun _ => ?_ | refine wkT (fun _ => ?_) ?_ | refine wkF ?_) | ((with_reducible fail_if_success first | constructor | show False); conv => whnf)
    refine Need.mk ceq_nil ?_
    repeat' first | (with_reducible first | refine wkI ?_ | exact ⟨⟩ | refine wkB (fun _ => ?_) fun _ => ?_ | refine wkT (fun _ => ?_) ?_ | refine wkE ?_) | ((with_reducible fail_if_success first | constructor | show False); conv => whnf)
  · rename_i h
    simp only [Bool.or_eq_false_iff, decide_eq_false_iff_not] at h
    have h1 : newD n = ⟨List.replicate n.toNat (List.replicate 16 0), []⟩ := by unfold newD; rw [if_pos (by omega)]
    have h2 : newE n = 0 := by unfold newE; rw [if_pos (by omega)]
    rw [h1, h2]
    obtain ⟨m, rfl⟩ : ∃ m : Nat, n = m := ⟨n.toNat, by omega⟩
    have hm1 : 1 ≤ m := by omega
    have hm2 : m ≤ 64 := by omega
    repeat' first | (with_reducible first | refine wkI ?_ | exact ⟨⟩ | refine wkB (fun _ => ?_) fun _ => ?_ | refine wkT (fun _ => ?_) ?_ | refine wkS ?_) | ((with_reducible fail_if_success first | constructor | show False); conv => whnf)
    refine LoopVC.of (X := {i : Nat // i ≤ m}) (fun i => stL [(2, .va 2 0 0), (4, .os 14 0 1 0 m), (16, .c (.int .i64 m)), (17, .c (.int .i64 i.1))]
      [(2, vE [.nil 1, .nil 2]), (14, ⟨1, m, .dat fun r _ => .str (if r < i.1 then List.replicate 16 0 else []), false, true⟩)])
      (fun i => m - i.1) ⟨0, Nat.zero_le _⟩ (Le.of ⟨⟨rfl, rfl, rfl⟩, ⟨rfl, rfl, rfl, rfl, rfl⟩, CEq.refl _, rfl, trivial⟩ ⟨⟨_, rfl, SubE.var2 trivial trivial⟩, ⟨_, rfl, SubE.dat fun i hi j hj => ?_⟩, trivial⟩) ?_
    · obtain rfl : j = 0 := by omega
      exact eS (by rw [if_neg (by show ¬ i < 0; omega)])
    rintro Q hQ ⟨i, hi⟩
    repeat' first | (with_reducible first | refine wkI ?_ | exact ⟨⟩ | refine wkB (fun _ => ?_) fun _ => ?_ | refine wkT (fun _ => ?_) ?_ | refine wkS ?_) | ((with_reducible fail_if_success first | constructor | show False); conv => whnf)
    · rename_i h3
      simp only [decide_eq_true_eq] at h3
      refine CallVC.mk' (fun _ => hrep) (fun _ => .cons (.one (CEq.refl _)) (.cons (.one (CEq.refl _)) .nil)) ?_
      repeat' first | (with_reducible first | refine wkI ?_ | exact ⟨⟩ | refine wkB (fun _ => ?_) fun _ => ?_ | refine wkT (fun _ => ?_) ?_ | refine wkS ?_) | ((with_reducible fail_if_success first | constructor | show False); conv => whnf)
      refine LoopEnd.mk ⟨⟨i + 1, by omega⟩, by show m - (i + 1) < m - i; omega, Le.of ⟨⟨rfl, rfl, rfl⟩, ⟨rfl, rfl, rfl, rfl, rfl⟩, CEq.refl _, cI (by simp), trivial⟩ ⟨⟨_, rfl, SubE.var2 trivial trivial⟩, ⟨_, rfl, SubE.dat fun k hk j hj => ?_⟩, trivial⟩⟩
      obtain rfl : j = 0 := by have hj : j < 1 := hj; omega
      rw [updC_at]
      show CEq _ (Cell.str (if k < i + 1 then List.replicate 16 0 else []))
      simp only [addN_eq, Nat.zero_add, Int.toNat_natCast]
      by_cases hki : k = i
      · rw [if_pos ⟨hki, trivial⟩, if_pos (by omega)]; exact CEq.refl _
      · rw [if_neg (fun h => hki h.1)]
        exact eS (by show (if k < i then _ else _) = _; congr 1; apply propext; omega)
    · rename_i h3
      simp only [decide_eq_false_iff_not] at h3
      obtain rfl : i = m := by omega
      refine Out.mk (hQ _ _ ?_)
      repeat' first | (with_reducible first | refine wkI ?_ | exact ⟨⟩ | refine wkB (fun _ => ?_) fun _ => ?_ | refine wkT (fun _ => ?_) ?_ | refine wkF ?_) | ((with_reducible fail_if_success first | constructor | show False); conv => whnf)
      refine Need.mk (CEq.list (by simp) fun k hk j hj => ?_) ?_
      · obtain rfl : j = 0 := by omega
        have hk : k < i := by simpa using hk
        rw [getD_eq (by simpa using hk)]
        exact eS (by show (if addN 0 k < i then _ else _) = _; rw [if_pos (by rw [addN_eq]; omega)]; simp)
      repeat' first | (with_reducible first | refine wkI ?_ | exact ⟨⟩ | refine wkB (fun _ => ?_) fun _ => ?_ | refine wkT (fun _ => ?_) ?_ | refine wkF ?_) | ((with_reducible fail_if_success first | constructor | show False); conv => whnf)
      refine Need.mk ceq_nil ?_
      repeat' first | (with_reducible first | refine wkI ?_ | exact ⟨⟩ | refine wkB (fun _ => ?_) fun _ => ?_ | refine wkT (fun _ => ?_) ?_ | refine wkE ?_) | ((with_reducible fail_if_success first | constructor | show False); conv => whnf)
theorem right_ok (hm : P.follows .mixedOrders = true) (hk : disk_Right_k P F) (hf : disk_fits_k P F) (d : Dsk) (hs : d.secs.length ≤ 1000000) (hc : d.cache.length ≤ 1000000)
    (hls : ∀ s ∈ d.secs, s.length ≤ 1000000) (hlc : ∀ w ∈ d.cache, w.data.length ≤ 1000000) : FnOk P (F 40) [.many 2 (dskE d)] [.one (.im (.bool (decide (right d))))] := by
  refine fnOk hm hk ?_
  repeat' first | (with_reducible first | refine wkI ?_ | exact ⟨⟩ | refine wkB (fun _ => ?_) fun _ => ?_ | refine wkT (fun _ => ?_) ?_ | (refine Need.mk ?_ ?_; (first | omega | with_reducible exact CEq.refl _))) | ((with_reducible fail_if_success first | constructor | show False); conv => whnf)
  · rename_i h
    simp only [Bool.or_eq_true, decide_eq_true_eq] at h
    refine Need.mk (eB ?_) ?_
    · symm; rw [decide_eq_false_iff_not]; unfold right; omega
    · repeat' first | (with_reducible first | refine wkI ?_ | exact ⟨⟩ | refine wkB (fun _ => ?_) fun _ => ?_ | refine wkT (fun _ => ?_) ?_ | refine wkE ?_) | ((with_reducible fail_if_success first | constructor | show False); conv => whnf)
  · rename_i h1
    simp only [Bool.or_eq_false_iff, decide_eq_false_iff_not] at h1
    refine LoopVC.of (X := {i : Nat // i ≤ d.secs.length ∧ ∀ k, k < i → (d.secs.getD k default).length = 16}) (fun i => stL [(1, .va 1 0 0), (24, .c (slL 1 strE d.secs)), (25, .c (.int .i64 d.secs.length)), (26, .c (.int .i64 i.1))] [(1, vE [.c (slL 1 strE d.secs), .c (slL 2 wrE d.cache)])])
      (fun i => d.secs.length - i.1) ⟨0, Nat.zero_le _, fun k hk => by omega⟩ (Le.of ⟨⟨rfl, rfl, rfl⟩, CEq.refl _, rfl, rfl, trivial⟩ ⟨⟨_, rfl, SubE.var2 (CEq.refl _) (CEq.refl _)⟩, trivial⟩) ?_
    rintro Q hQ ⟨i, hi, hi2⟩
    have hle : (d.secs.getD i default).length ≤ 1000000 ∨ ¬ i < d.secs.length := by
      by_cases h : i < d.secs.length
      · exact .inl (hls _ (getD_mem h))
      · exact .inr h
    repeat' first | (with_reducible first | refine wkI ?_ | exact ⟨⟩ | refine wkB (fun _ => ?_) fun _ => ?_ | refine wkT (fun _ => ?_) ?_ | refine wkS ?_) | ((with_reducible fail_if_success first | constructor | show False); conv => whnf)
    · rename_i h3 h4
      simp only [decide_eq_true_eq, Bool.not_eq_true', decide_eq_false_iff_not, Int.toNat_natCast, addN_eq, Nat.zero_add] at h3 h4
      refine Out.mk (hQ _ _ ?_)
      repeat' first | (with_reducible first | refine wkI ?_ | exact ⟨⟩ | refine wkB (fun _ => ?_) fun _ => ?_ | refine wkT (fun _ => ?_) ?_ | refine wkF ?_) | ((with_reducible fail_if_success first | constructor | show False); conv => whnf)
      refine Need.mk (eB ?_) ?_
      · symm; rw [decide_eq_false_iff_not]
        intro hr
        have h5 := hr.2.2.2.1 _ (getD_mem (show i < d.secs.length by omega))
        omega
      · repeat' first | (with_reducible first | refine wkI ?_ | exact ⟨⟩ | refine wkB (fun _ => ?_) fun _ => ?_ | refine wkT (fun _ => ?_) ?_ | refine wkE ?_) | ((with_reducible fail_if_success first | constructor | show False); conv => whnf)
    · rename_i h3 h4
      simp only [decide_eq_true_eq, Bool.not_eq_false', decide_eq_false_iff_not, Int.toNat_natCast, addN_eq, Nat.zero_add] at h3 h4
      refine LoopEnd.mk ⟨⟨i + 1, by omega, fun k hk => ?_⟩, by show d.secs.length - (i + 1) < d.secs.length - i; omega, Le.of ⟨⟨rfl, rfl, rfl⟩, CEq.refl _, rfl, cI (by simp), trivial⟩ ⟨⟨_, rfl, SubE.var2 (CEq.refl _) (CEq.refl _)⟩, trivial⟩⟩
      rcases Nat.lt_or_ge k i with h | h
      · exact hi2 k h
      · obtain rfl : k = i := by omega
        omega
    · rename_i h3
      simp only [decide_eq_false_iff_not] at h3
      refine Out.mk (hQ _ _ ?_)
      have hsec : ∀ s ∈ d.secs, s.length = 16 := by
        obtain rfl : i = d.secs.length := by omega
        exact all_of_getD hi2
      repeat' first | (with_reducible first | refine wkI ?_ | exact ⟨⟩ | refine wkB (fun _ => ?_) fun _ => ?_ | refine wkT (fun _ => ?_) ?_ | refine wkS ?_) | ((with_reducible fail_if_success first | constructor | show False); conv => whnf)
      refine LoopVC.of (X := {i : Nat // i ≤ d.cache.length ∧ ∀ k, k < i → fits d (d.cache.getD k default)}) (fun i => stL [(1, .va 1 0 0), (35, .c (slL 2 wrE d.cache)), (36, .c (.int .i64 d.cache.length)), (37, .c (.int .i64 i.1))] [(1, vE [.c (slL 1 strE d.secs), .c (slL 2 wrE d.cache)])])
        (fun i => d.cache.length - i.1) ⟨0, Nat.zero_le _, fun k hk => by omega⟩ (Le.of ⟨⟨rfl, rfl, rfl⟩, CEq.refl _, rfl, rfl, trivial⟩ ⟨⟨_, rfl, SubE.var2 (CEq.refl _) (CEq.refl _)⟩, trivial⟩) ?_
      rintro Q2 hQ2 ⟨k, hk, hk2⟩
      repeat' first | (with_reducible first | refine wkI ?_ | exact ⟨⟩ | refine wkB (fun _ => ?_) fun _ => ?_ | refine wkT (fun _ => ?_) ?_ | refine wkS ?_) | ((with_reducible fail_if_success first | constructor | show False); conv => whnf)
      · rename_i h4
        simp only [decide_eq_true_eq] at h4
        have hkl : k < d.cache.length := by omega
        refine CallVC.mk' (fun _ => fits_ok hm hf d (d.cache.getD k default) (by omega) (by have := hlc _ (getD_mem hkl); omega)) (fun _ => .cons ((mC2 (by rfl))) (.cons ((mC2 (by rfl))) .nil)) ?_
        repeat' first | (with_reducible first | refine wkI ?_ | exact ⟨⟩ | refine wkB (fun _ => ?_) fun _ => ?_ | refine wkT (fun _ => ?_) ?_ | refine wkS ?_) | ((with_reducible fail_if_success first | constructor | show False); conv => whnf)
        · rename_i h5
          simp only [Bool.not_eq_true', decide_eq_false_iff_not] at h5
          refine Out.mk (hQ2 _ _ ?_)
          repeat' first | (with_reducible first | refine wkI ?_ | exact ⟨⟩ | refine wkB (fun _ => ?_) fun _ => ?_ | refine wkT (fun _ => ?_) ?_ | refine wkF ?_) | ((with_reducible fail_if_success first | constructor | show False); conv => whnf)
          refine Need.mk (eB ?_) ?_
          · symm; rw [decide_eq_false_iff_not]
            exact fun hr => h5 (hr.2.2.2.2 _ (getD_mem hkl))
          · repeat' first | (with_reducible first | refine wkI ?_ | exact ⟨⟩ | refine wkB (fun _ => ?_) fun _ => ?_ | refine wkT (fun _ => ?_) ?_ | refine wkE ?_) | ((with_reducible fail_if_success first | constructor | show False); conv => whnf)
        · rename_i h5
          simp only [Bool.not_eq_false', decide_eq_true_eq] at h5
          refine LoopEnd.mk ⟨⟨k + 1, by omega, fun m hm => ?_⟩, by show d.cache.length - (k + 1) < d.cache.length - k; omega, Le.of ⟨⟨rfl, rfl, rfl⟩, CEq.refl _, rfl, cI (by simp), trivial⟩ ⟨⟨_, rfl, SubE.var2 (CEq.refl _) (CEq.refl _)⟩, trivial⟩⟩
          rcases Nat.lt_or_ge m k with h | h
          · exact hk2 m h
          · obtain rfl : m = k := by omega
            exact h5
      · rename_i h4
        simp only [decide_eq_false_iff_not] at h4
        refine Out.mk (hQ2 _ _ ?_)
        repeat' first | (with_reducible first | refine wkI ?_ | exact ⟨⟩ | refine wkB (fun _ => ?_) fun _ => ?_ | refine wkT (fun _ => ?_) ?_ | refine wkF ?_) | ((with_reducible fail_if_success first | constructor | show False); conv => whnf)
        refine Need.mk (eB ?_) ?_
        · symm; rw [decide_eq_true_eq]
          obtain rfl : k = d.cache.length := by omega
          exact ⟨by omega, by omega, by omega, hsec, all_of_getD hk2⟩
        · repeat' first | (with_reducible first | refine wkI ?_ | exact ⟨⟩ | refine wkB (fun _ => ?_) fun _ => ?_ | refine wkT (fun _ => ?_) ?_ | refine wkE ?_) | ((with_reducible fail_if_success first | constructor | show False); conv => whnf)
theorem set_getD {α : Type} [Inhabited α] {l : List α} {r i : Nat} {x : α} (hr : r < l.length) : (l.set r x).getD i default = if r = i then x else l.getD i default := by
  rw [List.getD_eq_getElem?_getD, List.getD_eq_getElem?_getD, List.getElem?_set]
  split
  · next h => subst h; simp [hr]
  · rfl
def wrS (secs : List (List UInt8)) (l : List Wr) : List (List UInt8) := l.foldl (fun s w => s.set w.at_.toNat w.data) secs
theorem wrS_len {secs : List (List UInt8)} {l : List Wr} : (wrS secs l).length = secs.length := by
  induction l generalizing secs with
  | nil => rfl
  | cons w l ih => show (wrS (secs.set _ _) l).length = _; rw [ih, List.length_set]
theorem wrS_snoc {secs : List (List UInt8)} {l : List Wr} {w : Wr} : wrS secs (l ++ [w]) = (wrS secs l).set w.at_.toNat w.data := by
  unfold wrS; rw [List.foldl_append]; rfl
theorem written_ok (hm : P.follows .mixedOrders = true) (hk : disk_written_k P F) (hc : sl_Clone_string_k P F) (d : Dsk) (l : List Wr) (hs : d.secs.length ≤ 1000000) (hl : l.length ≤ 1000000)
    (hw : ∀ w ∈ l, 0 ≤ w.at_ ∧ w.at_ < d.secs.length) : FnOk P (F 50) [.many 2 (dskE d), .one (slL 2 wrE l)] [.many 2 (fun j => .im (dskE ⟨wrS d.secs l, []⟩ j))] := by
  refine fnOk hm hk ?_
  repeat' first | (with_reducible first | refine wkI ?_ | exact ⟨⟩ | refine wkB (fun _ => ?_) fun _ => ?_ | refine wkT (fun _ => ?_) ?_ | refine wkS ?_) | ((with_reducible fail_if_success first | constructor | show False); conv => whnf)
  refine CallVC.mk' (fun _ => sl_Clone_string_ok hm hc d.secs.length (fun i j => strE (d.secs.getD i default) j) (by omega)) (fun _ => .cons (.one (CEq.refl _)) .nil) ?_
  repeat' first | (with_reducible first | refine wkI ?_ | exact ⟨⟩ | refine wkB (fun _ => ?_) fun _ => ?_ | refine wkT (fun _ => ?_) ?_ | refine wkS ?_) | ((with_reducible fail_if_success first | constructor | show False); conv => whnf)
  refine LoopVC.of (X := {i : Nat // i ≤ l.length}) (fun i => stL [(4, .va 4 0 0), (5, .os 1010 0 1 0 d.secs.length), (11, .c (slL 2 wrE l)), (12, .c (.int .i64 l.length)), (13, .c (.int .i64 i.1))]
      [(4, vE [.nil 1, .nil 2]), (1010, ⟨1, d.secs.length, .dat fun r j => strE ((wrS d.secs (l.take i.1)).getD r default) j, false, true⟩)])
    (fun i => l.length - i.1) ⟨0, Nat.zero_le _⟩ (Le.of ⟨⟨rfl, rfl, rfl⟩, ⟨rfl, rfl, rfl, rfl, rfl⟩, CEq.refl _, rfl, rfl, trivial⟩ ⟨⟨_, rfl, SubE.var2 trivial trivial⟩, ⟨_, rfl, SubE.dat fun i hi j hj => CEq.refl _⟩, trivial⟩) ?_
  rintro Q hQ ⟨i, hi⟩
  have hwi : ¬ i < l.length ∨ (0 ≤ (l.getD i default).at_ ∧ (l.getD i default).at_ < d.secs.length) := by
    by_cases h : i < l.length
    · exact .inr (hw _ (getD_mem h))
    · exact .inl h
  repeat' first | (with_reducible first | refine wkI ?_ | exact ⟨⟩ | refine wkB (fun _ => ?_) fun _ => ?_ | refine wkT (fun _ => ?_) ?_ | refine wkS ?_) | ((with_reducible fail_if_success first | constructor | show False); conv => whnf)
  · rename_i h3
    simp only [decide_eq_true_eq] at h3
    refine LoopEnd.mk ⟨⟨i + 1, by omega⟩, by show l.length - (i + 1) < l.length - i; omega, Le.of ⟨⟨rfl, rfl, rfl⟩, ⟨rfl, rfl, rfl, rfl, rfl⟩, CEq.refl _, rfl, cI (by simp), trivial⟩ ⟨⟨_, rfl, SubE.var2 trivial trivial⟩, ⟨_, rfl, SubE.dat fun k hk j hj => ?_⟩, trivial⟩⟩
    obtain rfl : j = 0 := by have hj : j < 1 := hj; omega
    have hk : k < d.secs.length := hk
    rw [updC_at]
    show CEq _ (Cell.str ((wrS d.secs (l.take (i + 1))).getD k default))
    rw [take_snoc (by omega), wrS_snoc, set_getD (by rw [wrS_len]; omega)]
    simp only [addN_eq, Nat.zero_add, Int.toNat_natCast]
    by_cases hki : k = (l.getD i default).at_.toNat
    · rw [if_pos ⟨hki, trivial⟩, if_pos hki.symm]; exact CEq.refl _
    · rw [if_neg (fun h => hki h.1), if_neg (fun h => hki h.symm)]; exact CEq.refl _
  · rename_i h3
    simp only [decide_eq_false_iff_not] at h3
    obtain rfl : i = l.length := by omega
    refine Out.mk (hQ _ _ ?_)
    repeat' first | (with_reducible first | refine wkI ?_ | exact ⟨⟩ | refine wkB (fun _ => ?_) fun _ => ?_ | refine wkT (fun _ => ?_) ?_ | refine wkF ?_) | ((with_reducible fail_if_success first | constructor | show False); conv => whnf)
    refine Need.mk (CEq.list (by show _ = (wrS d.secs l).length; rw [wrS_len]) fun k hk j hj => ?_) ?_
    · show CEq (strE ((wrS d.secs (l.take l.length)).getD (addN 0 k) default) j) _
      rw [List.take_length, addN_eq, Nat.zero_add]; exact CEq.refl _
    repeat' first | (with_reducible first | refine wkI ?_ | exact ⟨⟩ | refine wkB (fun _ => ?_) fun _ => ?_ | refine wkT (fun _ => ?_) ?_ | refine wkF ?_) | ((with_reducible fail_if_success first | constructor | show False); conv => whnf)
    refine Need.mk ceq_nil ?_
    repeat' first | (with_reducible first | refine wkI ?_ | exact ⟨⟩ | refine wkB (fun _ => ?_) fun _ => ?_ | refine wkT (fun _ => ?_) ?_ | refine wkF ?_) | ((with_reducible fail_if_success first | constructor | show False); conv => whnf)
def Dsk.put (d : Dsk) (w : Wr) : Dsk := if right d ∧ fits d w ∧ d.cache.length < 200 then ⟨d.secs, d.cache ++ [w]⟩ else d
def Dsk.putE (d : Dsk) (w : Wr) : Int := if right d ∧ fits d w then (if d.cache.length < 200 then 0 else 7) else 1
theorem put_ok (hm : P.follows .mixedOrders = true) (hk : disk_Put_k P F) (hr : disk_Right_k P F) (hf : disk_fits_k P F) (hcl : sl_Clone_api_Write_k P F) (d : Dsk) (w : Wr) (hs : d.secs.length ≤ 1000000) (hc : d.cache.length ≤ 1000000)
    (hls : ∀ s ∈ d.secs, s.length ≤ 1000000) (hlc : ∀ w ∈ d.cache, w.data.length ≤ 1000000) (hw : w.data.length ≤ 1000000) : FnOk P (F 36) [.many 2 (dskE d), .many 2 (wrE w)]
      [.many 2 (fun j => .im (dskE (d.put w) j)), .one (.im (.int .i64 (d.putE w)))] := by
  refine fnOk hm hk ?_
  repeat' first | (with_reducible first | refine wkI ?_ | exact ⟨⟩ | refine wkB (fun _ => ?_) fun _ => ?_ | refine wkT (fun _ => ?_) ?_ | refine wkS ?_) | ((with_reducible fail_if_success first | constructor | show False); conv => whnf)
  refine CallVC.mk' (fun _ => right_ok hm hr hf d hs hc hls hlc) (fun _ => .cons ((mC2 (by rfl))) .nil) ?_
  repeat' first | (with_reducible first | refine wkI ?_ | exact ⟨⟩ | refine wkB (fun _ => ?_) fun _ => ?_ | refine wkT (fun _ => ?_) ?_ | refine wkS ?_) | ((with_reducible fail_if_success first | constructor | show False); conv => whnf)
  refine CallVC.mk' (fun _ => fits_ok hm hf d w (by omega) (by omega)) (fun _ => .cons ((mC2 (by rfl))) (.cons ((mC2 (by rfl))) .nil)) ?_
  repeat' first | (with_reducible first | refine wkI ?_ | exact ⟨⟩ | refine wkB (fun _ => ?_) fun _ => ?_ | refine wkT (fun _ => ?_) ?_ | refine wkS ?_) | ((with_reducible fail_if_success first | constructor | show False); conv => whnf)
  · rename_i h
    have h1 : ¬ (right d ∧ fits d w) := by
      rintro ⟨a, b⟩; rw [decide_eq_true a, decide_eq_true b] at h; exact absurd h (by decide)
    have e1 : d.put w = d := by unfold Dsk.put; exact if_neg fun h => h1 ⟨h.1, h.2.1⟩
    have e2 : d.putE w = 1 := by unfold Dsk.putE; exact if_neg h1
    rw [e1, e2]
    repeat' first | (with_reducible first | refine wkI ?_ | exact ⟨⟩ | refine wkB (fun _ => ?_) fun _ => ?_ | refine wkT (fun _ => ?_) ?_ | refine wkF ?_) | ((with_reducible fail_if_success first | constructor | show False); conv => whnf)
    refine Need.mk (CEq.refl _) ?_
    repeat' first | (with_reducible first | refine wkI ?_ | exact ⟨⟩ | refine wkB (fun _ => ?_) fun _ => ?_ | refine wkT (fun _ => ?_) ?_ | refine wkF ?_) | ((with_reducible fail_if_success first | constructor | show False); conv => whnf)
    refine Need.mk (CEq.refl _) ?_
    repeat' first | (with_reducible first | refine wkI ?_ | exact ⟨⟩ | refine wkB (fun _ => ?_) fun _ => ?_ | refine wkT (fun _ => ?_) ?_ | refine wkE ?_) | ((with_reducible fail_if_success first | constructor | show False); conv => whnf)
  · rename_i h h'
    have e1 : d.put w = d := by unfold Dsk.put; exact if_neg fun h => by have := h.2.2; simp at h'; omega
    have e2 : d.putE w = 7 := by
      unfold Dsk.putE
      rw [if_pos, if_neg (by simp at h'; omega)]
      simpa using h
    rw [e1, e2]
    repeat' first | (with_reducible first | refine wkI ?_ | exact ⟨⟩ | refine wkB (fun _ => ?_) fun _ => ?_ | refine wkT (fun _ => ?_) ?_ | refine wkF ?_) | ((with_reducible fail_if_success first | constructor | show False); conv => whnf)
    refine Need.mk (CEq.refl _) ?_
    repeat' first | (with_reducible first | refine wkI ?_ | exact ⟨⟩ | refine wkB (fun _ => ?_) fun _ => ?_ | refine wkT (fun _ => ?_) ?_ | refine wkF ?_) | ((with_reducible fail_if_success first | constructor | show False); conv => whnf)
    refine Need.mk (CEq.refl _) ?_
    repeat' first | (with_reducible first | refine wkI ?_ | exact ⟨⟩ | refine wkB (fun _ => ?_) fun _ => ?_ | refine wkT (fun _ => ?_) ?_ | refine wkE ?_) | ((with_reducible fail_if_success first | constructor | show False); conv => whnf)
  · rename_i h h'
    have h2 : right d ∧ fits d w := by simpa using h
    have h3 : d.cache.length < 200 := by simp at h'; omega
    have e1 : d.put w = ⟨d.secs, d.cache ++ [w]⟩ := by unfold Dsk.put; exact if_pos ⟨h2.1, h2.2, h3⟩
    have e2 : d.putE w = 0 := by unfold Dsk.putE; rw [if_pos h2, if_pos h3]
    rw [e1, e2]
    refine CallVC.mk' (fun _ => sl_Clone_api_Write_ok hm hcl d.cache.length (fun i j => wrE (d.cache.getD i default) j) (by omega)) (fun _ => .cons (.one (CEq.refl _)) .nil) ?_
    repeat' first | (with_reducible first | refine wkI ?_ | exact ⟨⟩ | refine wkB (fun _ => ?_) fun _ => ?_ | refine wkT (fun _ => ?_) ?_ | refine wkS ?_) | ((with_reducible fail_if_success first | constructor | show False); conv => whnf)
    refine Need.mk (CEq.refl _) ?_
    repeat' first | (with_reducible first | refine wkI ?_ | exact ⟨⟩ | refine wkB (fun _ => ?_) fun _ => ?_ | refine wkT (fun _ => ?_) ?_ | refine wkF ?_) | ((with_reducible fail_if_success first | constructor | show False); conv => whnf)
    refine Need.mk (CEq.list (by simp) fun k hk j hj => ?_) ?_
    · refine appC_list (size := 2) rfl (fun i _ j _ => CEq.refl _) (fun j hj => ?_) k hk j hj
      rcases (show j = 0 ∨ j = 1 by omega) with rfl | rfl <;> exact CEq.refl _
    repeat' first | (with_reducible first | refine wkI ?_ | exact ⟨⟩ | refine wkB (fun _ => ?_) fun _ => ?_ | refine wkT (fun _ => ?_) ?_ | refine wkE ?_) | ((with_reducible fail_if_success first | constructor | show False); conv => whnf)
end
end Lk.S03
namespace Lk.S03
open Go Lk Lk.C
def kpL (c : List Wr) (keep : List Int) : Nat → List Wr
  | 0 => []
  | i + 1 => if (i : Int) ∈ keep then kpL c keep i ++ [c.getD i default] else kpL c keep i
theorem kpL_le (c : List Wr) (keep : List Int) (i : Nat) : (kpL c keep i).length ≤ i := by
  induction i with
  | zero => exact Nat.le_refl _
  | succ i ih =>
    show (if _ then _ else _ : List Wr).length ≤ _
    split
    · rw [List.length_append]; show _ + 1 ≤ _; omega
    · omega
theorem kpL_mem {c : List Wr} {keep : List Int} {i : Nat} (hi : i ≤ c.length) : ∀ w ∈ kpL c keep i, w ∈ c := by
  induction i with
  | zero => intro w hw; cases hw
  | succ i ih =>
    intro w hw
    have hw : w ∈ (if (i : Int) ∈ keep then kpL c keep i ++ [c.getD i default] else kpL c keep i) := hw
    split at hw
    · rcases List.mem_append.1 hw with h | h
      · exact ih (by omega) w h
      · rw [List.mem_singleton] at h; subst h; exact getD_mem (by omega)
    · exact ih (by omega) w hw
def Dsk.crash (d : Dsk) (keep : List Int) : Dsk := if right d then ⟨wrS d.secs (kpL d.cache keep d.cache.length), []⟩ else d
def Dsk.sync (d : Dsk) : Dsk := if right d then ⟨wrS d.secs d.cache, []⟩ else d
def intE (k : Int) (_ : Nat) : Cell := .int .i64 k
section
variable {P : Program} {F : Nat → Nat}
structure KDisk (P : Program) (F : Nat → Nat) : Prop where
  m : P.follows .mixedOrders = true
  new : disk_New_k P F
  right : disk_Right_k P F
  fits : disk_fits_k P F
  put : disk_Put_k P F
  sync : disk_Sync_k P F
  crash : disk_Crash_k P F
  written : disk_written_k P F
  cloneW : sl_Clone_api_Write_k P F
  cloneS : sl_Clone_string_k P F
  rep : FnOk P (F 49) [.one (.str [0]), .one (.int .i64 16)] [.one (.im (.str (List.replicate 16 0)))]
structure Small (d : Dsk) : Prop where
  s : d.secs.length ≤ 1000000
  c : d.cache.length ≤ 1000000
  ls : ∀ s ∈ d.secs, s.length ≤ 1000000
  lc : ∀ w ∈ d.cache, w.data.length ≤ 1000000
theorem sync_ok (K : KDisk P F) (d : Dsk) (S : Small d) : FnOk P (F 41) [.many 2 (dskE d)] [.many 2 (fun j => .im (dskE d.sync j))] := by
  refine fnOk K.m K.sync ?_
  repeat' first | (with_reducible first | refine wkI ?_ | exact ⟨⟩ | refine wkB (fun _ => ?_) fun _ => ?_ | refine wkT (fun _ => ?_) ?_ | refine wkF ?_) | ((with_reducible fail_if_success first | constructor | show False); conv => whnf)
  refine CallVC.mk' (fun _ => right_ok K.m K.right K.fits d S.s S.c S.ls S.lc) (fun _ => .cons ((mC2 (by rfl))) .nil) ?_
  repeat' first | (with_reducible first | refine wkI ?_ | exact ⟨⟩ | refine wkB (fun _ => ?_) fun _ => ?_ | refine wkT (fun _ => ?_) ?_ | refine wkF ?_) | ((with_reducible fail_if_success first | constructor | show False); conv => whnf)
  · rename_i h
    simp only [Bool.not_eq_true', decide_eq_false_iff_not] at h
    rw [show d.sync = d by unfold Dsk.sync; exact if_neg h]
    refine Need.mk (CEq.refl _) ?_
    repeat' first | (with_reducible first | refine wkI ?_ | exact ⟨⟩ | refine wkB (fun _ => ?_) fun _ => ?_ | refine wkT (fun _ => ?_) ?_ | refine wkF ?_) | ((with_reducible fail_if_success first | constructor | show False); conv => whnf)
    refine Need.mk (CEq.refl _) ?_
    repeat' first | (with_reducible first | refine wkI ?_ | exact ⟨⟩ | refine wkB (fun _ => ?_) fun _ => ?_ | refine wkT (fun _ => ?_) ?_ | refine wkF ?_) | ((with_reducible fail_if_success first | constructor | show False); conv => whnf)
  · rename_i h
    simp only [Bool.not_eq_false', decide_eq_true_eq] at h
    rw [show d.sync = ⟨wrS d.secs d.cache, []⟩ by unfold Dsk.sync; exact if_pos h]
    refine CallVC.mk' (fun _ => written_ok K.m K.written K.cloneS d d.cache S.s S.c (fun w hw => ⟨(h.2.2.2.2 w hw).1, (h.2.2.2.2 w hw).2.1⟩)) (fun _ => .cons ((mC2 (by rfl))) (.cons (.one (CEq.refl _)) .nil)) ?_
    repeat' first | (with_reducible first | refine wkI ?_ | exact ⟨⟩ | refine wkB (fun _ => ?_) fun _ => ?_ | refine wkT (fun _ => ?_) ?_ | refine wkF ?_) | ((with_reducible fail_if_success first | constructor | show False); conv => whnf)
    refine Need.mk (CEq.refl _) ?_
    repeat' first | (with_reducible first | refine wkI ?_ | exact ⟨⟩ | refine wkB (fun _ => ?_) fun _ => ?_ | refine wkT (fun _ => ?_) ?_ | refine wkF ?_) | ((with_reducible fail_if_success first | constructor | show False); conv => whnf)
    refine Need.mk (CEq.refl _) ?_
    repeat' first | (with_reducible first | refine wkI ?_ | exact ⟨⟩ | refine wkB (fun _ => ?_) fun _ => ?_ | refine wkT (fun _ => ?_) ?_ | refine wkF ?_) | ((with_reducible fail_if_success first | constructor | show False); conv => whnf)
theorem crash_ok (K : KDisk P F) (d : Dsk) (keep : List Int) (S : Small d) (hk : keep.length ≤ 1000000) : FnOk P (F 33) [.many 2 (dskE d), .one (slL 1 intE keep)] [.many 2 (fun j => .im (dskE (d.crash keep) j))] := by
  refine fnOk K.m K.crash ?_
  repeat' first | (with_reducible first | refine wkI ?_ | exact ⟨⟩ | refine wkB (fun _ => ?_) fun _ => ?_ | refine wkT (fun _ => ?_) ?_ | refine wkF ?_) | ((with_reducible fail_if_success first | constructor | show False); conv => whnf)
  refine CallVC.mk' (fun _ => right_ok K.m K.right K.fits d S.s S.c S.ls S.lc) (fun _ => .cons ((mC2 (by rfl))) .nil) ?_
  repeat' first | (with_reducible first | refine wkI ?_ | exact ⟨⟩ | refine wkB (fun _ => ?_) fun _ => ?_ | refine wkT (fun _ => ?_) ?_ | refine wkF ?_) | ((with_reducible fail_if_success first | constructor | show False); conv => whnf)
  · rename_i h
    simp only [Bool.not_eq_true', decide_eq_false_iff_not] at h
    rw [show d.crash keep = d by unfold Dsk.crash; exact if_neg h]
    refine Need.mk (CEq.refl _) ?_
    repeat' first | (with_reducible first | refine wkI ?_ | exact ⟨⟩ | refine wkB (fun _ => ?_) fun _ => ?_ | refine wkT (fun _ => ?_) ?_ | refine wkF ?_) | ((with_reducible fail_if_success first | constructor | show False); conv => whnf)
    refine Need.mk (CEq.refl _) ?_
    repeat' first | (with_reducible first | refine wkI ?_ | exact ⟨⟩ | refine wkB (fun _ => ?_) fun _ => ?_ | refine wkT (fun _ => ?_) ?_ | refine wkF ?_) | ((with_reducible fail_if_success first | constructor | show False); conv => whnf)
  · rename_i h
    simp only [Bool.not_eq_false', decide_eq_true_eq] at h
    rw [show d.crash keep = ⟨wrS d.secs (kpL d.cache keep d.cache.length), []⟩ by unfold Dsk.crash; exact if_pos h]
    have hc := S.c
    have hs := S.s
    repeat' first | (with_reducible first | refine wkI ?_ | exact ⟨⟩ | refine wkB (fun _ => ?_) fun _ => ?_ | refine wkT (fun _ => ?_) ?_ | refine wkS ?_) | ((with_reducible fail_if_success first | constructor | show False); conv => whnf)
    refine LoopVC.inv (fun i : Nat => i ≤ keep.length) (fun i => stL [(2, .va 2 0 0), (4, .va 4 0 0), (5, .os 18 0 1 0 d.cache.length), (19, .c (slL 1 intE keep)), (20, .c (.int .i64 keep.length)), (21, .c (.int .i64 i))]
        [(2, vE [.c (slL 1 strE d.secs), .c (slL 2 wrE d.cache)]), (4, vE [.nil 1, .nil 2]), (18, ⟨1, d.cache.length, .dat fun r _ => .bool (decide ((r : Int) ∈ keep.take i)), false, true⟩)])
      (fun i => keep.length - i) 0 (Nat.zero_le _) ?_ ?_
    · refine Le.of ⟨⟨rfl, rfl, rfl⟩, ⟨rfl, rfl, rfl⟩, ⟨rfl, rfl, rfl, rfl, rfl⟩, CEq.refl _, rfl, rfl, trivial⟩
        ⟨⟨_, rfl, SubE.var2 (CEq.refl _) (CEq.refl _)⟩, ⟨_, rfl, SubE.var2 trivial trivial⟩, ⟨_, rfl, SubE.dat fun i hi j hj => ?_⟩, trivial⟩
      obtain rfl : j = 0 := by omega
      exact eB (by simp)
    rintro Q hQ i hi
    repeat' first | (with_reducible first | refine wkI ?_ | exact ⟨⟩ | refine wkB (fun _ => ?_) fun _ => ?_ | refine wkT (fun _ => ?_) ?_ | refine wkS ?_) | ((with_reducible fail_if_success first | constructor | show False); conv => whnf)
    · rename_i h3 h4
      simp only [decide_eq_true_eq, Bool.and_eq_true, Int.toNat_natCast] at h3 h4
      refine LoopEnd.mk ⟨i + 1, by omega, by omega, ?_⟩
      refine Le.of ⟨⟨rfl, rfl, rfl⟩, ⟨rfl, rfl, rfl⟩, ⟨rfl, rfl, rfl, rfl, rfl⟩, CEq.refl _, rfl, cI (by simp), trivial⟩
        ⟨⟨_, rfl, SubE.var2 (CEq.refl _) (CEq.refl _)⟩, ⟨_, rfl, SubE.var2 trivial trivial⟩, ⟨_, rfl, SubE.dat fun r hr j hj => ?_⟩, trivial⟩
      obtain rfl : j = 0 := by have hj : j < 1 := hj; omega
      rw [updC_at, take_snoc (by omega)]
      simp only [addN_eq, Nat.zero_add, Int.toNat_natCast]
      by_cases hri : r = (keep.getD i default).toNat
      · rw [if_pos ⟨hri, trivial⟩]
        exact eB (by symm; rw [decide_eq_true_eq, List.mem_append, List.mem_singleton]; right; omega)
      · rw [if_neg (fun h => hri h.1)]
        exact eB (by rw [decide_eq_decide, List.mem_append, List.mem_singleton]; exact ⟨.inl, fun h => h.resolve_right (by omega)⟩)
    · rename_i h3 h4
      simp only [decide_eq_true_eq, Bool.and_eq_false_iff, decide_eq_false_iff_not, Int.toNat_natCast] at h3 h4
      refine LoopEnd.mk ⟨i + 1, by omega, by omega, ?_⟩
      refine Le.of ⟨⟨rfl, rfl, rfl⟩, ⟨rfl, rfl, rfl⟩, ⟨rfl, rfl, rfl, rfl, rfl⟩, CEq.refl _, rfl, cI (by simp), trivial⟩
        ⟨⟨_, rfl, SubE.var2 (CEq.refl _) (CEq.refl _)⟩, ⟨_, rfl, SubE.var2 trivial trivial⟩, ⟨_, rfl, SubE.dat fun r hr j hj => ?_⟩, trivial⟩
      obtain rfl : j = 0 := by have hj : j < 1 := hj; omega
      have hr : r < d.cache.length := hr
      rw [take_snoc (by omega)]
      exact eB (by rw [decide_eq_decide, List.mem_append, List.mem_singleton]; exact ⟨.inl, fun h => h.resolve_right (by omega)⟩)
    · rename_i h3
      simp only [decide_eq_false_iff_not] at h3
      obtain rfl : i = keep.length := by omega
      refine Out.mk (hQ _ _ ?_)
      repeat' first | (with_reducible first | refine wkI ?_ | exact ⟨⟩ | refine wkB (fun _ => ?_) fun _ => ?_ | refine wkT (fun _ => ?_) ?_ | refine wkS ?_) | ((with_reducible fail_if_success first | constructor | show False); conv => whnf)
      refine LoopVC.inv (fun i : Nat => i ≤ d.cache.length) (fun i => stL [(2, .va 2 0 0), (4, .va 4 0 0), (5, .os 18 0 1 0 d.cache.length), (8, .os 52 0 2 0 (kpL d.cache keep i).length), (38, .c (slL 2 wrE d.cache)), (39, .c (.int .i64 d.cache.length)), (40, .c (.int .i64 i))]
          [(2, vE [.c (slL 1 strE d.secs), .c (slL 2 wrE d.cache)]), (4, vE [.nil 1, .nil 2]), (18, ⟨1, d.cache.length, .dat fun r _ => .bool (decide ((r : Int) ∈ keep)), false, true⟩),
           (52, ⟨2, (kpL d.cache keep i).length, .dat fun r j => wrE ((kpL d.cache keep i).getD r default) j, false, true⟩)])
        (fun i => d.cache.length - i) 0 (Nat.zero_le _) ?_ ?_
      · refine Le.ofN [52] ⟨.inl ⟨rfl, rfl, rfl⟩, .inl ⟨rfl, rfl, rfl⟩, .inl ⟨rfl, rfl, rfl, rfl, rfl⟩, .inr ⟨_, _, _, rfl, rfl, rfl⟩, .inl (CEq.refl _), .inl rfl, .inl rfl, trivial⟩
          ⟨.inr ⟨rfl, _, rfl, .of (SubE.var2 (CEq.refl _) (CEq.refl _))⟩, .inr ⟨rfl, _, rfl, .of (SubE.var2 trivial trivial)⟩, .inr ⟨rfl, _, rfl, .of (SubE.dat fun r hr j hj => ?_)⟩, .inl ⟨rfl, rfl⟩, trivial⟩
        exact eB (by rw [List.take_length])
      rintro Q2 hQ2 k hk2
      have hkp := kpL_le d.cache keep k
      repeat' first | (with_reducible first | refine wkI ?_ | exact ⟨⟩ | refine wkB (fun _ => ?_) fun _ => ?_ | refine wkT (fun _ => ?_) ?_ | refine wkS ?_) | ((with_reducible fail_if_success first | constructor | show False); conv => whnf)
      · rename_i h4 h5
        simp only [decide_eq_true_eq, Int.toNat_natCast, addN_eq, Nat.zero_add] at h4 h5
        have e : kpL d.cache keep (k + 1) = kpL d.cache keep k ++ [d.cache.getD k default] := if_pos h5
        refine LoopEnd.mk ⟨k + 1, by omega, by omega, ?_⟩
        simp only [e, List.length_append, List.length_singleton]
        refine Le.of ⟨⟨rfl, rfl, rfl⟩, ⟨rfl, rfl, rfl⟩, ⟨rfl, rfl, rfl, rfl, rfl⟩, ⟨rfl, rfl, rfl, rfl, rfl⟩, CEq.refl _, rfl, cI (by simp), trivial⟩
          ⟨⟨_, rfl, SubE.var2 (CEq.refl _) (CEq.refl _)⟩, ⟨_, rfl, SubE.var2 trivial trivial⟩, ⟨_, rfl, SubE.dat fun r hr j hj => CEq.refl _⟩, ⟨_, rfl, SubE.dat fun r hr j hj => ?_⟩, trivial⟩
        have hj : j < 2 := hj
        refine appC_list (size := 2) rfl (fun i _ j _ => CEq.refl _) (fun j hj => ?_) r (by rw [List.length_append]; exact hr) j hj
        rcases (show j = 0 ∨ j = 1 by omega) with rfl | rfl <;> exact CEq.refl _
      · rename_i h4 h5
        simp only [decide_eq_true_eq, decide_eq_false_iff_not, Int.toNat_natCast, addN_eq, Nat.zero_add] at h4 h5
        have e : kpL d.cache keep (k + 1) = kpL d.cache keep k := if_neg h5
        refine LoopEnd.mk ⟨k + 1, by omega, by omega, ?_⟩
        simp only [e]
        refine Le.of ⟨⟨rfl, rfl, rfl⟩, ⟨rfl, rfl, rfl⟩, ⟨rfl, rfl, rfl, rfl, rfl⟩, ⟨rfl, rfl, rfl, rfl, rfl⟩, CEq.refl _, rfl, cI (by simp), trivial⟩
          ⟨⟨_, rfl, SubE.var2 (CEq.refl _) (CEq.refl _)⟩, ⟨_, rfl, SubE.var2 trivial trivial⟩, ⟨_, rfl, SubE.dat fun r hr j hj => CEq.refl _⟩, ⟨_, rfl, SubE.dat fun r hr j hj => CEq.refl _⟩, trivial⟩
      · rename_i h4
        simp only [decide_eq_false_iff_not] at h4
        obtain rfl : k = d.cache.length := by omega
        refine Out.mk (hQ2 _ _ ?_)
        repeat' first | (with_reducible first | refine wkI ?_ | exact ⟨⟩ | refine wkB (fun _ => ?_) fun _ => ?_ | refine wkT (fun _ => ?_) ?_ | refine wkF ?_) | ((with_reducible fail_if_success first | constructor | show False); conv => whnf)
        have hfr := h.2.2.2.2
        refine CallVC.mk' (fun _ => written_ok K.m K.written K.cloneS d (kpL d.cache keep d.cache.length) S.s (by omega) (fun w hw => ⟨(hfr w (kpL_mem (Nat.le_refl _) w hw)).1, (hfr w (kpL_mem (Nat.le_refl _) w hw)).2.1⟩)) (fun _ => .cons ((mC2 (by rfl))) (.cons (.one ?_) .nil)) ?_
        · exact CEq.list rfl fun i _ j _ => by rw [addN_eq, Nat.zero_add]; exact CEq.refl _
        repeat' first | (with_reducible first | refine wkI ?_ | exact ⟨⟩ | refine wkB (fun _ => ?_) fun _ => ?_ | refine wkT (fun _ => ?_) ?_ | refine wkF ?_) | ((with_reducible fail_if_success first | constructor | show False); conv => whnf)
        refine Need.mk (CEq.refl _) ?_
        repeat' first | (with_reducible first | refine wkI ?_ | exact ⟨⟩ | refine wkB (fun _ => ?_) fun _ => ?_ | refine wkT (fun _ => ?_) ?_ | refine wkF ?_) | ((with_reducible fail_if_success first | constructor | show False); conv => whnf)
        refine Need.mk (CEq.refl _) ?_
        repeat' first | (with_reducible first | refine wkI ?_ | exact ⟨⟩ | refine wkB (fun _ => ?_) fun _ => ?_ | refine wkT (fun _ => ?_) ?_ | refine wkF ?_) | ((with_reducible fail_if_success first | constructor | show False); conv => whnf)
end
end Lk.S03
namespace Lk.S03
open Go Lk Lk.C
section
variable {P : Program} {F : Nat → Nat}
structure KLaw (P : Program) (F : Nat → Nat) : Prop where
  k : KDisk P F
  awake : law03_awake_k P F
  rd : ∀ (d : Dsk) (at_ : Int), Small d → FnOk P (F 37) [.many 2 (dskE d), .one (.int .i64 at_)] [.one (.im (.str (d.rd at_).1)), .one (.im (.int .i64 (d.rd at_).2))]
def zs : List UInt8 := List.replicate 16 0
def dg : List UInt8 := [48, 49, 50, 51, 52, 53, 54, 55, 56, 57, 97, 98, 99, 100, 101, 102]
def d0 : Dsk := ⟨[zs, zs], []⟩
def d1 : Dsk := ⟨[zs, zs], [⟨1, dg⟩]⟩
theorem d0_new : newD 2 = d0 := by decide +kernel
theorem d0_newE : newE 2 = 0 := by decide +kernel
theorem d1_put : d0.put ⟨1, dg⟩ = d1 := by decide +kernel
theorem d1_putE : d0.putE ⟨1, dg⟩ = 0 := by decide +kernel
theorem d1_rd : d1.rd 1 = (dg, 0) := by decide +kernel
theorem d1_crash : d1.crash [] = d0 := by decide +kernel
theorem d0_rd : d0.rd 1 = (zs, 0) := by decide +kernel
theorem d1_right : decide (right d1) = true := by decide +kernel
theorem small0 : Small d0 := ⟨by decide, by decide, by decide +kernel, by decide +kernel⟩
theorem small1 : Small d1 := ⟨by decide, by decide, by decide +kernel, by decide +kernel⟩
theorem awake_ok (L : KLaw P F) : FnOk P (F 29) [] [.one (.im (.bool true))] := by
  refine fnOk L.k.m L.awake ?_
  have K := L.k
  repeat' first | (with_reducible first | refine wkI ?_ | exact ⟨⟩ | refine wkB (fun _ => ?_) fun _ => ?_ | refine wkT (fun _ => ?_) ?_ | refine wkF ?_) | ((with_reducible fail_if_success first | constructor | show False); conv => whnf)
  refine CallVC.mk' (fun _ => new_ok K.m K.new 2 K.rep) (fun _ => .cons (.one (CEq.refl _)) .nil) ?_
  rw [d0_new, d0_newE]
  repeat' first | (with_reducible first | refine wkI ?_ | exact ⟨⟩ | refine wkB (fun _ => ?_) fun _ => ?_ | refine wkT (fun _ => ?_) ?_ | refine wkF ?_) | ((with_reducible fail_if_success first | constructor | show False); conv => whnf)
  refine CallVC.mk' (fun _ => put_ok K.m K.put K.right K.fits K.cloneW d0 ⟨1, dg⟩ small0.s small0.c small0.ls small0.lc (by decide)) (fun _ => .cons ((mC2 (by rfl))) (.cons ((mC2 (by rfl))) .nil)) ?_
  rw [d1_put, d1_putE]
  repeat' first | (with_reducible first | refine wkI ?_ | exact ⟨⟩ | refine wkB (fun _ => ?_) fun _ => ?_ | refine wkT (fun _ => ?_) ?_ | refine wkF ?_) | ((with_reducible fail_if_success first | constructor | show False); conv => whnf)
  refine CallVC.mk' (fun _ => L.rd d1 1 small1) (fun _ => .cons ((mC2 (by rfl))) (.cons (.one (CEq.refl _)) .nil)) ?_
  rw [d1_rd]
  repeat' first | (with_reducible first | refine wkI ?_ | exact ⟨⟩ | refine wkB (fun _ => ?_) fun _ => ?_ | refine wkT (fun _ => ?_) ?_ | refine wkF ?_) | ((with_reducible fail_if_success first | constructor | show False); conv => whnf)
  refine CallVC.mk' (fun _ => crash_ok K d1 [] small1 (by decide)) (fun _ => .cons ((mC2 (by rfl))) (.cons .nilc .nil)) ?_
  rw [d1_crash]
  repeat' first | (with_reducible first | refine wkI ?_ | exact ⟨⟩ | refine wkB (fun _ => ?_) fun _ => ?_ | refine wkT (fun _ => ?_) ?_ | refine wkF ?_) | ((with_reducible fail_if_success first | constructor | show False); conv => whnf)
  refine CallVC.mk' (fun _ => L.rd d0 1 small0) (fun _ => .cons ((mC2 (by rfl))) (.cons (.one (CEq.refl _)) .nil)) ?_
  rw [d0_rd]
  repeat' first | (with_reducible first | refine wkI ?_ | exact ⟨⟩ | refine wkB (fun _ => ?_) fun _ => ?_ | refine wkT (fun _ => ?_) ?_ | (refine Need.mk ?_ ?_; (first | omega | with_reducible exact CEq.refl _))) | ((with_reducible fail_if_success first | constructor | show False); conv => whnf)
  refine Need.mk (fun _ => by decide) ?_
  repeat' first | (with_reducible first | refine wkI ?_ | exact ⟨⟩ | refine wkB (fun _ => ?_) fun _ => ?_ | refine wkT (fun _ => ?_) ?_ | refine wkF ?_) | ((with_reducible fail_if_success first | constructor | show False); conv => whnf)
  refine CallVC.mk' (fun _ => right_ok K.m K.right K.fits d1 small1.s small1.c small1.ls small1.lc) (fun _ => .cons ((mC2 (by rfl))) .nil) ?_
  rw [d1_right]
  repeat' first | (with_reducible first | refine wkI ?_ | exact ⟨⟩ | refine wkB (fun _ => ?_) fun _ => ?_ | refine wkT (fun _ => ?_) ?_ | refine wkF ?_) | ((with_reducible fail_if_success first | constructor | show False); conv => whnf)
  refine Need.mk (eB (by decide +kernel)) ?_
  repeat' first | (with_reducible first | refine wkI ?_ | exact ⟨⟩ | refine wkB (fun _ => ?_) fun _ => ?_ | refine wkT (fun _ => ?_) ?_ | refine wkF ?_) | ((with_reducible fail_if_success first | constructor | show False); conv => whnf)
end
end Lk.S03
namespace Lk.S03
open Go Lk Lk.C
def tiny (d : Dsk) : Prop := d.secs.length ≤ 80 ∧ d.cache.length ≤ 220 ∧ (∀ s ∈ d.secs, s.length ≤ 40) ∧ ∀ w ∈ d.cache, w.data.length ≤ 40
instance (d : Dsk) : Decidable (tiny d) := by unfold tiny; infer_instance
theorem tiny.small {d : Dsk} (h : tiny d) : Small d :=
  ⟨by have := h.1; omega, by have := h.2.1; omega, fun s hs => by have := h.2.2.1 s hs; omega, fun w hw => by have := h.2.2.2 w hw; omega⟩
section
variable {P : Program} {F : Nat → Nat}
structure KRef (P : Program) (F : Nat → Nat) : Prop where
  m : P.follows .mixedOrders = true
  small : ref03_Small_k P F
  right : ref03_Right_k P F
  same : ref03_Same_k P F
  read : ref03_Read_k P F
  sync : ref03_Sync_k P F
structure KRefC (P : Program) (F : Nat → Nat) : Prop where
  m : P.follows .mixedOrders = true
  in_ : ref03_in_k P F
  crash : ref03_Crash_k P F
theorem small_ok (K : KRef P F) (d : Dsk) (W : EDsk.wf d) : FnOk P (F 31) [.many 2 (dskE d)] [.one (.im (.bool (decide (tiny d))))] := by
  refine fnOk K.m K.small ?_
  have hs : d.secs.length ≤ 9223372036854775807 := W.1
  have hc : d.cache.length ≤ 9223372036854775807 := W.2.1
  repeat' first | (with_reducible first | refine wkI ?_ | exact ⟨⟩ | refine wkB (fun _ => ?_) fun _ => ?_ | refine wkT (fun _ => ?_) ?_ | (refine Need.mk ?_ ?_; (first | omega | with_reducible exact CEq.refl _))) | ((with_reducible fail_if_success first | constructor | show False); conv => whnf)
  · rename_i h
    simp only [Bool.or_eq_true, decide_eq_true_eq] at h
    refine Need.mk (eB ?_) ?_
    · symm; rw [decide_eq_false_iff_not]; unfold tiny; omega
    · repeat' first | (with_reducible first | refine wkI ?_ | exact ⟨⟩ | refine wkB (fun _ => ?_) fun _ => ?_ | refine wkT (fun _ => ?_) ?_ | refine wkE ?_) | ((with_reducible fail_if_success first | constructor | show False); conv => whnf)
  · rename_i h1
    simp only [Bool.or_eq_false_iff, decide_eq_false_iff_not] at h1
    refine LoopVC.inv (fun i : Nat => i ≤ d.secs.length ∧ ∀ k, k < i → (d.secs.getD k default).length ≤ 40) (fun i => stL [(1, .va 1 0 0), (3, .c (.int .i64 i))] [(1, vE [.c (slL 1 strE d.secs), .c (slL 2 wrE d.cache)])])
      (fun i => d.secs.length - i) 0 ⟨Nat.zero_le _, fun k hk => by omega⟩ (Le.of ⟨⟨rfl, rfl, rfl⟩, rfl, trivial⟩ ⟨⟨_, rfl, SubE.var2 (CEq.refl _) (CEq.refl _)⟩, trivial⟩) ?_
    rintro Q hQ i ⟨hi, hi2⟩
    have hle : ¬ i < d.secs.length ∨ (d.secs.getD i default).length ≤ 9223372036854775807 := by
      by_cases h : i < d.secs.length
      · exact .inr (W.2.2.1 _ (getD_mem h))
      · exact .inl h
    repeat' first | (with_reducible first | refine wkI ?_ | exact ⟨⟩ | refine wkB (fun _ => ?_) fun _ => ?_ | refine wkT (fun _ => ?_) ?_ | refine wkS ?_) | ((with_reducible fail_if_success first | constructor | show False); conv => whnf)
    · rename_i h3 h4
      simp only [decide_eq_true_eq, Int.toNat_natCast, addN_eq, Nat.zero_add] at h3 h4
      refine Out.mk (hQ _ _ ?_)
      repeat' first | (with_reducible first | refine wkI ?_ | exact ⟨⟩ | refine wkB (fun _ => ?_) fun _ => ?_ | refine wkT (fun _ => ?_) ?_ | refine wkF ?_) | ((with_reducible fail_if_success first | constructor | show False); conv => whnf)
      refine Need.mk (eB ?_) ?_
      · symm; rw [decide_eq_false_iff_not]
        intro hr
        have h5 := hr.2.2.1 _ (getD_mem (show i < d.secs.length by omega))
        omega
      · repeat' first | (with_reducible first | refine wkI ?_ | exact ⟨⟩ | refine wkB (fun _ => ?_) fun _ => ?_ | refine wkT (fun _ => ?_) ?_ | refine wkE ?_) | ((with_reducible fail_if_success first | constructor | show False); conv => whnf)
    · rename_i h3 h4
      simp only [decide_eq_true_eq, decide_eq_false_iff_not, Int.toNat_natCast, addN_eq, Nat.zero_add] at h3 h4
      refine LoopEnd.mk ⟨i + 1, ⟨by omega, fun k hk => ?_⟩, by omega, Le.of ⟨⟨rfl, rfl, rfl⟩, cI (by simp), trivial⟩ ⟨⟨_, rfl, SubE.var2 (CEq.refl _) (CEq.refl _)⟩, trivial⟩⟩
      rcases Nat.lt_or_ge k i with h | h
      · exact hi2 k h
      · obtain rfl : k = i := by omega
        omega
    · rename_i h3
      simp only [decide_eq_false_iff_not] at h3
      refine Out.mk (hQ _ _ ?_)
      have hsec : ∀ s ∈ d.secs, s.length ≤ 40 := by
        obtain rfl : i = d.secs.length := by omega
        exact all_of_getD hi2
      repeat' first | (with_reducible first | refine wkI ?_ | exact ⟨⟩ | refine wkB (fun _ => ?_) fun _ => ?_ | refine wkT (fun _ => ?_) ?_ | refine wkS ?_) | ((with_reducible fail_if_success first | constructor | show False); conv => whnf)
      refine LoopVC.inv (fun i : Nat => i ≤ d.cache.length ∧ ∀ k, k < i → (d.cache.getD k default).data.length ≤ 40) (fun i => stL [(1, .va 1 0 0), (4, .c (.int .i64 i))] [(1, vE [.c (slL 1 strE d.secs), .c (slL 2 wrE d.cache)])])
        (fun i => d.cache.length - i) 0 ⟨Nat.zero_le _, fun k hk => by omega⟩ (Le.of ⟨⟨rfl, rfl, rfl⟩, rfl, trivial⟩ ⟨⟨_, rfl, SubE.var2 (CEq.refl _) (CEq.refl _)⟩, trivial⟩) ?_
      rintro Q2 hQ2 k ⟨hk, hk2⟩
      have hle2 : ¬ k < d.cache.length ∨ (d.cache.getD k default).data.length ≤ 9223372036854775807 := by
        by_cases h : k < d.cache.length
        · exact .inr (W.2.2.2 _ (getD_mem h))
        · exact .inl h
      repeat' first | (with_reducible first | refine wkI ?_ | exact ⟨⟩ | refine wkB (fun _ => ?_) fun _ => ?_ | refine wkT (fun _ => ?_) ?_ | refine wkS ?_) | ((with_reducible fail_if_success first | constructor | show False); conv => whnf)
      · rename_i h4 h5
        simp only [decide_eq_true_eq, Int.toNat_natCast, addN_eq, Nat.zero_add] at h4 h5
        refine Out.mk (hQ2 _ _ ?_)
        repeat' first | (with_reducible first | refine wkI ?_ | exact ⟨⟩ | refine wkB (fun _ => ?_) fun _ => ?_ | refine wkT (fun _ => ?_) ?_ | refine wkF ?_) | ((with_reducible fail_if_success first | constructor | show False); conv => whnf)
        refine Need.mk (eB ?_) ?_
        · symm; rw [decide_eq_false_iff_not]
          intro hr
          have h6 := hr.2.2.2 _ (getD_mem (show k < d.cache.length by omega))
          omega
        · repeat' first | (with_reducible first | refine wkI ?_ | exact ⟨⟩ | refine wkB (fun _ => ?_) fun _ => ?_ | refine wkT (fun _ => ?_) ?_ | refine wkE ?_) | ((with_reducible fail_if_success first | constructor | show False); conv => whnf)
      · rename_i h4 h5
        simp only [decide_eq_true_eq, decide_eq_false_iff_not, Int.toNat_natCast, addN_eq, Nat.zero_add] at h4 h5
        refine LoopEnd.mk ⟨k + 1, ⟨by omega, fun m hm => ?_⟩, by omega, Le.of ⟨⟨rfl, rfl, rfl⟩, cI (by simp), trivial⟩ ⟨⟨_, rfl, SubE.var2 (CEq.refl _) (CEq.refl _)⟩, trivial⟩⟩
        rcases Nat.lt_or_ge m k with h | h
        · exact hk2 m h
        · obtain rfl : m = k := by omega
          omega
      · rename_i h4
        simp only [decide_eq_false_iff_not] at h4
        refine Out.mk (hQ2 _ _ ?_)
        repeat' first | (with_reducible first | refine wkI ?_ | exact ⟨⟩ | refine wkB (fun _ => ?_) fun _ => ?_ | refine wkT (fun _ => ?_) ?_ | refine wkF ?_) | ((with_reducible fail_if_success first | constructor | show False); conv => whnf)
        refine Need.mk (eB ?_) ?_
        · symm; rw [decide_eq_true_eq]
          obtain rfl : k = d.cache.length := by omega
          exact ⟨by omega, by omega, hsec, all_of_getD hk2⟩
        · repeat' first | (with_reducible first | refine wkI ?_ | exact ⟨⟩ | refine wkB (fun _ => ?_) fun _ => ?_ | refine wkT (fun _ => ?_) ?_ | refine wkE ?_) | ((with_reducible fail_if_success first | constructor | show False); conv => whnf)
theorem rright_ok (K : KRef P F) (d : Dsk) (W : EDsk.wf d) : FnOk P (F 32) [.many 2 (dskE d)] [.one (.im (.bool (decide (right d))))] := by
  refine fnOk K.m K.right ?_
  have hs : d.secs.length ≤ 9223372036854775807 := W.1
  have hc : d.cache.length ≤ 9223372036854775807 := W.2.1
  repeat' first | (with_reducible first | refine wkI ?_ | exact ⟨⟩ | refine wkB (fun _ => ?_) fun _ => ?_ | refine wkT (fun _ => ?_) ?_ | (refine Need.mk ?_ ?_; (first | omega | with_reducible exact CEq.refl _))) | ((with_reducible fail_if_success first | constructor | show False); conv => whnf)
  · rename_i h
    simp only [Bool.or_eq_true, decide_eq_true_eq] at h
    refine Need.mk (eB ?_) ?_
    · symm; rw [decide_eq_false_iff_not]; unfold right; omega
    · repeat' first | (with_reducible first | refine wkI ?_ | exact ⟨⟩ | refine wkB (fun _ => ?_) fun _ => ?_ | refine wkT (fun _ => ?_) ?_ | refine wkE ?_) | ((with_reducible fail_if_success first | constructor | show False); conv => whnf)
  · rename_i h1
    simp only [Bool.or_eq_false_iff, decide_eq_false_iff_not] at h1
    refine LoopVC.inv (fun i : Nat => i ≤ d.secs.length ∧ ∀ k, k < i → (d.secs.getD k default).length = 16) (fun i => stL [(1, .va 1 0 0), (3, .c (.int .i64 i))] [(1, vE [.c (slL 1 strE d.secs), .c (slL 2 wrE d.cache)])])
      (fun i => d.secs.length - i) 0 ⟨Nat.zero_le _, fun k hk => by omega⟩ (Le.of ⟨⟨rfl, rfl, rfl⟩, rfl, trivial⟩ ⟨⟨_, rfl, SubE.var2 (CEq.refl _) (CEq.refl _)⟩, trivial⟩) ?_
    rintro Q hQ i ⟨hi, hi2⟩
    have hle : ¬ i < d.secs.length ∨ (d.secs.getD i default).length ≤ 9223372036854775807 := by
      by_cases h : i < d.secs.length
      · exact .inr (W.2.2.1 _ (getD_mem h))
      · exact .inl h
    repeat' first | (with_reducible first | refine wkI ?_ | exact ⟨⟩ | refine wkB (fun _ => ?_) fun _ => ?_ | refine wkT (fun _ => ?_) ?_ | refine wkS ?_) | ((with_reducible fail_if_success first | constructor | show False); conv => whnf)
    · rename_i h3 h4
      simp only [decide_eq_true_eq, Bool.not_eq_true', decide_eq_false_iff_not, Int.toNat_natCast, addN_eq, Nat.zero_add] at h3 h4
      refine Out.mk (hQ _ _ ?_)
      repeat' first | (with_reducible first | refine wkI ?_ | exact ⟨⟩ | refine wkB (fun _ => ?_) fun _ => ?_ | refine wkT (fun _ => ?_) ?_ | refine wkF ?_) | ((with_reducible fail_if_success first | constructor | show False); conv => whnf)
      refine Need.mk (eB ?_) ?_
      · symm; rw [decide_eq_false_iff_not]
        intro hr
        have h5 := hr.2.2.2.1 _ (getD_mem (show i < d.secs.length by omega))
        omega
      · repeat' first | (with_reducible first | refine wkI ?_ | exact ⟨⟩ | refine wkB (fun _ => ?_) fun _ => ?_ | refine wkT (fun _ => ?_) ?_ | refine wkE ?_) | ((with_reducible fail_if_success first | constructor | show False); conv => whnf)
    · rename_i h3 h4
      simp only [decide_eq_true_eq, Bool.not_eq_false', decide_eq_false_iff_not, Int.toNat_natCast, addN_eq, Nat.zero_add] at h3 h4
      refine LoopEnd.mk ⟨i + 1, ⟨by omega, fun k hk => ?_⟩, by omega, Le.of ⟨⟨rfl, rfl, rfl⟩, cI (by simp), trivial⟩ ⟨⟨_, rfl, SubE.var2 (CEq.refl _) (CEq.refl _)⟩, trivial⟩⟩
      rcases Nat.lt_or_ge k i with h | h
      · exact hi2 k h
      · obtain rfl : k = i := by omega
        omega
    · rename_i h3
      simp only [decide_eq_false_iff_not] at h3
      refine Out.mk (hQ _ _ ?_)
      have hsec : ∀ s ∈ d.secs, s.length = 16 := by
        obtain rfl : i = d.secs.length := by omega
        exact all_of_getD hi2
      repeat' first | (with_reducible first | refine wkI ?_ | exact ⟨⟩ | refine wkB (fun _ => ?_) fun _ => ?_ | refine wkT (fun _ => ?_) ?_ | refine wkS ?_) | ((with_reducible fail_if_success first | constructor | show False); conv => whnf)
      refine LoopVC.inv (fun i : Nat => i ≤ d.cache.length ∧ ∀ k, k < i → fits d (d.cache.getD k default)) (fun i => stL [(1, .va 1 0 0), (4, .c (.int .i64 i))] [(1, vE [.c (slL 1 strE d.secs), .c (slL 2 wrE d.cache)])])
        (fun i => d.cache.length - i) 0 ⟨Nat.zero_le _, fun k hk => by omega⟩ (Le.of ⟨⟨rfl, rfl, rfl⟩, rfl, trivial⟩ ⟨⟨_, rfl, SubE.var2 (CEq.refl _) (CEq.refl _)⟩, trivial⟩) ?_
      rintro Q2 hQ2 k ⟨hk, hk2⟩
      have hle2 : ¬ k < d.cache.length ∨ (d.cache.getD k default).data.length ≤ 9223372036854775807 := by
        by_cases h : k < d.cache.length
        · exact .inr (W.2.2.2 _ (getD_mem h))
        · exact .inl h
      repeat' first | (with_reducible first | refine wkI ?_ | exact ⟨⟩ | refine wkB (fun _ => ?_) fun _ => ?_ | refine wkT (fun _ => ?_) ?_ | refine wkS ?_) | ((with_reducible fail_if_success first | constructor | show False); conv => whnf)
      · rename_i h4 h5
        simp only [decide_eq_true_eq, Bool.or_eq_true, Bool.not_eq_true', decide_eq_false_iff_not, Int.toNat_natCast, addN_eq, Nat.zero_add] at h4 h5
        refine Out.mk (hQ2 _ _ ?_)
        repeat' first | (with_reducible first | refine wkI ?_ | exact ⟨⟩ | refine wkB (fun _ => ?_) fun _ => ?_ | refine wkT (fun _ => ?_) ?_ | refine wkF ?_) | ((with_reducible fail_if_success first | constructor | show False); conv => whnf)
        refine Need.mk (eB ?_) ?_
        · symm; rw [decide_eq_false_iff_not]
          intro hr
          have h6 := hr.2.2.2.2 _ (getD_mem (show k < d.cache.length by omega))
          unfold fits at h6
          omega
        · repeat' first | (with_reducible first | refine wkI ?_ | exact ⟨⟩ | refine wkB (fun _ => ?_) fun _ => ?_ | refine wkT (fun _ => ?_) ?_ | refine wkE ?_) | ((with_reducible fail_if_success first | constructor | show False); conv => whnf)
      · rename_i h4 h5
        simp only [decide_eq_true_eq, Bool.or_eq_false_iff, Bool.not_eq_false', decide_eq_false_iff_not, Int.toNat_natCast, addN_eq, Nat.zero_add] at h4 h5
        refine LoopEnd.mk ⟨k + 1, ⟨by omega, fun m hm => ?_⟩, by omega, Le.of ⟨⟨rfl, rfl, rfl⟩, cI (by simp), trivial⟩ ⟨⟨_, rfl, SubE.var2 (CEq.refl _) (CEq.refl _)⟩, trivial⟩⟩
        rcases Nat.lt_or_ge m k with h | h
        · exact hk2 m h
        · obtain rfl : m = k := by omega
          unfold fits
          omega
      · rename_i h4
        simp only [decide_eq_false_iff_not] at h4
        refine Out.mk (hQ2 _ _ ?_)
        repeat' first | (with_reducible first | refine wkI ?_ | exact ⟨⟩ | refine wkB (fun _ => ?_) fun _ => ?_ | refine wkT (fun _ => ?_) ?_ | refine wkF ?_) | ((with_reducible fail_if_success first | constructor | show False); conv => whnf)
        refine Need.mk (eB ?_) ?_
        · symm; rw [decide_eq_true_eq]
          obtain rfl : k = d.cache.length := by omega
          exact ⟨by omega, by omega, by omega, hsec, all_of_getD hk2⟩
        · repeat' first | (with_reducible first | refine wkI ?_ | exact ⟨⟩ | refine wkB (fun _ => ?_) fun _ => ?_ | refine wkT (fun _ => ?_) ?_ | refine wkE ?_) | ((with_reducible fail_if_success first | constructor | show False); conv => whnf)
theorem eq_of_getD {α : Type} [Inhabited α] {l m : List α} (hn : l.length = m.length) (h : ∀ i, i < l.length → l.getD i default = m.getD i default) : l = m :=
  List.ext_getElem hn fun i h1 h2 => by have := h i h1; rwa [getD_eq h1, getD_eq h2] at this
theorem same_ok (K : KRef P F) (a b : Dsk) (Sa : Small a) (Sb : Small b) : FnOk P (F 38) [.many 2 (dskE a), .many 2 (dskE b)] [.one (.im (.bool (decide (a = b))))] := by
  refine fnOk K.m K.same ?_
  have hs := Sa.s
  have hc := Sa.c
  have hs' := Sb.s
  have hc' := Sb.c
  repeat' first | (with_reducible first | refine wkI ?_ | exact ⟨⟩ | refine wkB (fun _ => ?_) fun _ => ?_ | refine wkT (fun _ => ?_) ?_ | (refine Need.mk ?_ ?_; (first | omega | with_reducible exact CEq.refl _))) | ((with_reducible fail_if_success first | constructor | show False); conv => whnf)
  · rename_i h
    simp only [Bool.or_eq_true, Bool.not_eq_true', decide_eq_false_iff_not] at h
    refine Need.mk (eB ?_) ?_
    · symm; rw [decide_eq_false_iff_not]; rintro rfl; omega
    · repeat' first | (with_reducible first | refine wkI ?_ | exact ⟨⟩ | refine wkB (fun _ => ?_) fun _ => ?_ | refine wkT (fun _ => ?_) ?_ | refine wkE ?_) | ((with_reducible fail_if_success first | constructor | show False); conv => whnf)
  · rename_i h1
    simp only [Bool.or_eq_false_iff, Bool.not_eq_false', decide_eq_true_eq] at h1
    have h1s : a.secs.length = b.secs.length := by omega
    have h1c : a.cache.length = b.cache.length := by omega
    refine LoopVC.inv (fun i : Nat => i ≤ a.secs.length ∧ ∀ k, k < i → a.secs.getD k default = b.secs.getD k default) (fun i => stL [(2, .va 2 0 0), (3, .va 3 0 0), (5, .c (.int .i64 i))] [(2, vE [.c (slL 1 strE a.secs), .c (slL 2 wrE a.cache)]), (3, vE [.c (slL 1 strE b.secs), .c (slL 2 wrE b.cache)])])
      (fun i => a.secs.length - i) 0 ⟨Nat.zero_le _, fun k hk => by omega⟩ (Le.of ⟨⟨rfl, rfl, rfl⟩, ⟨rfl, rfl, rfl⟩, rfl, trivial⟩ ⟨⟨_, rfl, SubE.var2 (CEq.refl _) (CEq.refl _)⟩, ⟨_, rfl, SubE.var2 (CEq.refl _) (CEq.refl _)⟩, trivial⟩) ?_
    rintro Q hQ i ⟨hi, hi2⟩
    repeat' first | (with_reducible first | refine wkI ?_ | exact ⟨⟩ | refine wkB (fun _ => ?_) fun _ => ?_ | refine wkT (fun _ => ?_) ?_ | refine wkS ?_) | ((with_reducible fail_if_success first | constructor | show False); conv => whnf)
    · rename_i h3 h4
      simp only [decide_eq_true_eq, Bool.not_eq_true', decide_eq_false_iff_not, Int.toNat_natCast, addN_eq, Nat.zero_add] at h3 h4
      refine Out.mk (hQ _ _ ?_)
      repeat' first | (with_reducible first | refine wkI ?_ | exact ⟨⟩ | refine wkB (fun _ => ?_) fun _ => ?_ | refine wkT (fun _ => ?_) ?_ | refine wkF ?_) | ((with_reducible fail_if_success first | constructor | show False); conv => whnf)
      refine Need.mk (eB ?_) ?_
      · symm; rw [decide_eq_false_iff_not]
        rintro rfl
        exact h4 rfl
      · repeat' first | (with_reducible first | refine wkI ?_ | exact ⟨⟩ | refine wkB (fun _ => ?_) fun _ => ?_ | refine wkT (fun _ => ?_) ?_ | refine wkE ?_) | ((with_reducible fail_if_success first | constructor | show False); conv => whnf)
    · rename_i h3 h4
      simp only [decide_eq_true_eq, Bool.not_eq_false', decide_eq_false_iff_not, Int.toNat_natCast, addN_eq, Nat.zero_add] at h3 h4
      refine LoopEnd.mk ⟨i + 1, ⟨by omega, fun k hk => ?_⟩, by omega, Le.of ⟨⟨rfl, rfl, rfl⟩, ⟨rfl, rfl, rfl⟩, cI (by simp), trivial⟩ ⟨⟨_, rfl, SubE.var2 (CEq.refl _) (CEq.refl _)⟩, ⟨_, rfl, SubE.var2 (CEq.refl _) (CEq.refl _)⟩, trivial⟩⟩
      rcases Nat.lt_or_ge k i with h | h
      · exact hi2 k h
      · obtain rfl : k = i := by omega
        exact h4
    · rename_i h3
      simp only [decide_eq_false_iff_not] at h3
      refine Out.mk (hQ _ _ ?_)
      have hsec : a.secs = b.secs := by
        obtain rfl : i = a.secs.length := by omega
        exact eq_of_getD h1s hi2
      repeat' first | (with_reducible first | refine wkI ?_ | exact ⟨⟩ | refine wkB (fun _ => ?_) fun _ => ?_ | refine wkT (fun _ => ?_) ?_ | refine wkS ?_) | ((with_reducible fail_if_success first | constructor | show False); conv => whnf)
      refine LoopVC.inv (fun i : Nat => i ≤ a.cache.length ∧ ∀ k, k < i → a.cache.getD k default = b.cache.getD k default) (fun i => stL [(2, .va 2 0 0), (3, .va 3 0 0), (6, .c (.int .i64 i))] [(2, vE [.c (slL 1 strE a.secs), .c (slL 2 wrE a.cache)]), (3, vE [.c (slL 1 strE b.secs), .c (slL 2 wrE b.cache)])])
        (fun i => a.cache.length - i) 0 ⟨Nat.zero_le _, fun k hk => by omega⟩ (Le.of ⟨⟨rfl, rfl, rfl⟩, ⟨rfl, rfl, rfl⟩, rfl, trivial⟩ ⟨⟨_, rfl, SubE.var2 (CEq.refl _) (CEq.refl _)⟩, ⟨_, rfl, SubE.var2 (CEq.refl _) (CEq.refl _)⟩, trivial⟩) ?_
      rintro Q2 hQ2 k ⟨hk, hk2⟩
      repeat' first | (with_reducible first | refine wkI ?_ | exact ⟨⟩ | refine wkB (fun _ => ?_) fun _ => ?_ | refine wkT (fun _ => ?_) ?_ | refine wkS ?_) | ((with_reducible fail_if_success first | constructor | show False); conv => whnf)
      · rename_i h4 h5
        simp only [decide_eq_true_eq, cond_true, Bool.not_eq_true', Int.toNat_natCast] at h4 h5
        refine Out.mk (hQ2 _ _ ?_)
        repeat' first | (with_reducible first | refine wkI ?_ | exact ⟨⟩ | refine wkB (fun _ => ?_) fun _ => ?_ | refine wkT (fun _ => ?_) ?_ | refine wkF ?_) | ((with_reducible fail_if_success first | constructor | show False); conv => whnf)
        refine Need.mk (eB ?_) ?_
        · symm; rw [decide_eq_false_iff_not]
          rintro rfl
          simp at h5
        · repeat' first | (with_reducible first | refine wkI ?_ | exact ⟨⟩ | refine wkB (fun _ => ?_) fun _ => ?_ | refine wkT (fun _ => ?_) ?_ | refine wkE ?_) | ((with_reducible fail_if_success first | constructor | show False); conv => whnf)
      · rename_i h4 h5
        simp only [decide_eq_true_eq, cond_true, Bool.not_eq_false', Bool.and_eq_true, Int.toNat_natCast] at h4 h5
        refine LoopEnd.mk ⟨k + 1, ⟨by omega, fun m hm => ?_⟩, by omega, Le.of ⟨⟨rfl, rfl, rfl⟩, ⟨rfl, rfl, rfl⟩, cI (by simp), trivial⟩ ⟨⟨_, rfl, SubE.var2 (CEq.refl _) (CEq.refl _)⟩, ⟨_, rfl, SubE.var2 (CEq.refl _) (CEq.refl _)⟩, trivial⟩⟩
        rcases Nat.lt_or_ge m k with h | h
        · exact hk2 m h
        · obtain rfl : m = k := by omega
          obtain ⟨h6, h7⟩ := h5
          cases hx : a.cache.getD m default
          cases hy : b.cache.getD m default
          rw [hx, hy] at h6 h7
          simp only at h6 h7
          subst h6; subst h7; rfl
      · rename_i h4
        simp only [decide_eq_false_iff_not] at h4
        refine Out.mk (hQ2 _ _ ?_)
        repeat' first | (with_reducible first | refine wkI ?_ | exact ⟨⟩ | refine wkB (fun _ => ?_) fun _ => ?_ | refine wkT (fun _ => ?_) ?_ | refine wkF ?_) | ((with_reducible fail_if_success first | constructor | show False); conv => whnf)
        refine Need.mk (eB ?_) ?_
        · symm; rw [decide_eq_true_eq]
          obtain rfl : k = a.cache.length := by omega
          have := eq_of_getD h1c hk2
          cases a; cases b
          simp only at hsec this
          subst hsec; subst this; rfl
        · repeat' first | (with_reducible first | refine wkI ?_ | exact ⟨⟩ | refine wkB (fun _ => ?_) fun _ => ?_ | refine wkT (fun _ => ?_) ?_ | refine wkE ?_) | ((with_reducible fail_if_success first | constructor | show False); conv => whnf)
theorem mem_getD {l : List Int} {n : Int} : n ∈ l ↔ ∃ i, i < l.length ∧ l.getD i default = n := by
  rw [List.mem_iff_getElem]
  constructor
  · rintro ⟨i, h, e⟩; exact ⟨i, h, by rw [getD_eq h]; exact e⟩
  · rintro ⟨i, h, e⟩; exact ⟨i, h, by rw [getD_eq h] at e; exact e⟩
theorem in_ok (K : KRefC P F) (l : List Int) (n : Int) (hl : l.length ≤ 1000000) : FnOk P (F 54) [.one (slL 1 intE l), .one (.int .i64 n)] [.one (.im (.bool (decide (n ∈ l))))] := by
  refine fnOk K.m K.in_ ?_
  repeat' first | (with_reducible first | refine wkI ?_ | exact ⟨⟩ | refine wkB (fun _ => ?_) fun _ => ?_ | refine wkT (fun _ => ?_) ?_ | (refine Need.mk ?_ ?_; (first | omega | with_reducible exact CEq.refl _))) | ((with_reducible fail_if_success first | constructor | show False); conv => whnf)
  refine LoopVC.inv (fun i : Nat => i ≤ l.length ∧ ∀ k, k < i → l.getD k default ≠ n) (fun i => stL [(0, .c (slL 1 intE l)), (1, .c (.int .i64 n)), (5, .c (.int .i64 i))] [])
      (fun i => l.length - i) 0 ⟨Nat.zero_le _, fun k hk => by omega⟩ (Le.of ⟨CEq.refl _, rfl, rfl, trivial⟩ trivial) ?_
  rintro Q hQ i ⟨hi, hi2⟩
  repeat' first | (with_reducible first | refine wkI ?_ | exact ⟨⟩ | refine wkB (fun _ => ?_) fun _ => ?_ | refine wkT (fun _ => ?_) ?_ | refine wkS ?_) | ((with_reducible fail_if_success first | constructor | show False); conv => whnf)
  · rename_i h3 h4
    simp only [decide_eq_true_eq, Int.toNat_natCast, addN_eq, Nat.zero_add] at h3 h4
    refine Out.mk (hQ _ _ ?_)
    repeat' first | (with_reducible first | refine wkI ?_ | exact ⟨⟩ | refine wkB (fun _ => ?_) fun _ => ?_ | refine wkT (fun _ => ?_) ?_ | refine wkF ?_) | ((with_reducible fail_if_success first | constructor | show False); conv => whnf)
    refine Need.mk (eB ?_) ?_
    · symm; rw [decide_eq_true_eq, mem_getD]
      exact ⟨i, by omega, h4⟩
    · repeat' first | (with_reducible first | refine wkI ?_ | exact ⟨⟩ | refine wkB (fun _ => ?_) fun _ => ?_ | refine wkT (fun _ => ?_) ?_ | refine wkE ?_) | ((with_reducible fail_if_success first | constructor | show False); conv => whnf)
  · rename_i h3 h4
    simp only [decide_eq_true_eq, decide_eq_false_iff_not, Int.toNat_natCast, addN_eq, Nat.zero_add] at h3 h4
    refine LoopEnd.mk ⟨i + 1, ⟨by omega, fun k hk => ?_⟩, by omega, Le.of ⟨CEq.refl _, rfl, cI (by simp), trivial⟩ trivial⟩
    rcases Nat.lt_or_ge k i with h | h
    · exact hi2 k h
    · obtain rfl : k = i := by omega
      exact h4
  · rename_i h3
    simp only [decide_eq_false_iff_not] at h3
    obtain rfl : i = l.length := by omega
    refine Out.mk (hQ _ _ ?_)
    repeat' first | (with_reducible first | refine wkI ?_ | exact ⟨⟩ | refine wkB (fun _ => ?_) fun _ => ?_ | refine wkT (fun _ => ?_) ?_ | refine wkF ?_) | ((with_reducible fail_if_success first | constructor | show False); conv => whnf)
    refine Need.mk (eB ?_) ?_
    · symm; rw [decide_eq_false_iff_not, mem_getD]
      rintro ⟨j, hj, e⟩
      exact hi2 j hj e
    · repeat' first | (with_reducible first | refine wkI ?_ | exact ⟨⟩ | refine wkB (fun _ => ?_) fun _ => ?_ | refine wkT (fun _ => ?_) ?_ | refine wkE ?_) | ((with_reducible fail_if_success first | constructor | show False); conv => whnf)
theorem rread_ok (K : KRef P F) (d : Dsk) (i : Nat) (S : Small d) (hi : i < d.secs.length) : FnOk P (F 44) [.many 2 (dskE d), .one (.int .i64 i)] [.one (.im (.str (d.read i)))] := by
  refine fnOk K.m K.read ?_
  have hs := S.s
  have hc := S.c
  repeat' first | (with_reducible first | refine wkI ?_ | exact ⟨⟩ | refine wkB (fun _ => ?_) fun _ => ?_ | refine wkT (fun _ => ?_) ?_ | refine wkS ?_) | ((with_reducible fail_if_success first | constructor | show False); conv => whnf)
  refine LoopVC.inv (fun k : Nat => k ≤ d.cache.length ∧ ∀ j, k ≤ j → j < d.cache.length → (d.cache.getD j default).at_ ≠ i) (fun k => stL [(1, .c (.int .i64 i)), (2, .va 2 0 0), (5, .c (.int .i64 (k - 1)))] [(2, vE [.c (slL 1 strE d.secs), .c (slL 2 wrE d.cache)])])
      (fun k => k) d.cache.length ⟨Nat.le_refl _, fun k hk => by omega⟩ (Le.of ⟨rfl, ⟨rfl, rfl, rfl⟩, rfl, trivial⟩ ⟨⟨_, rfl, SubE.var2 (CEq.refl _) (CEq.refl _)⟩, trivial⟩) ?_
  rintro Q hQ k ⟨hk, hk2⟩
  repeat' first | (with_reducible first | refine wkI ?_ | exact ⟨⟩ | refine wkB (fun _ => ?_) fun _ => ?_ | refine wkT (fun _ => ?_) ?_ | refine wkS ?_) | ((with_reducible fail_if_success first | constructor | show False); conv => whnf)
  · rename_i h3 h4
    simp only [decide_eq_true_eq] at h3 h4
    rw [show ((k : Int) - 1).toNat = k - 1 by omega] at h4 ⊢
    refine Out.mk (hQ _ _ ?_)
    repeat' first | (with_reducible first | refine wkI ?_ | exact ⟨⟩ | refine wkB (fun _ => ?_) fun _ => ?_ | refine wkT (fun _ => ?_) ?_ | refine wkF ?_) | ((with_reducible fail_if_success first | constructor | show False); conv => whnf)
    refine Need.mk (eS ?_) ?_
    · symm
      exact rdL_hit (k := k - 1) (by omega) h4 fun j hj hjl => hk2 j (by omega) hjl
    · repeat' first | (with_reducible first | refine wkI ?_ | exact ⟨⟩ | refine wkB (fun _ => ?_) fun _ => ?_ | refine wkT (fun _ => ?_) ?_ | refine wkE ?_) | ((with_reducible fail_if_success first | constructor | show False); conv => whnf)
  · rename_i h3 h4
    simp only [decide_eq_true_eq, decide_eq_false_iff_not] at h3 h4
    rw [show ((k : Int) - 1).toNat = k - 1 by omega] at h4
    refine LoopEnd.mk ⟨k - 1, ⟨by omega, fun j hj hjl => ?_⟩, by omega, Le.of ⟨rfl, ⟨rfl, rfl, rfl⟩, cI (by omega), trivial⟩ ⟨⟨_, rfl, SubE.var2 (CEq.refl _) (CEq.refl _)⟩, trivial⟩⟩
    rcases Nat.lt_or_ge j k with h | h
    · obtain rfl : j = k - 1 := by omega
      exact h4
    · exact hk2 j h hjl
  · rename_i h3
    simp only [decide_eq_false_iff_not] at h3
    obtain rfl : k = 0 := by omega
    refine Out.mk (hQ _ _ ?_)
    repeat' first | (with_reducible first | refine wkI ?_ | exact ⟨⟩ | refine wkB (fun _ => ?_) fun _ => ?_ | refine wkT (fun _ => ?_) ?_ | (refine Need.mk ?_ ?_; (first | with_reducible exact CEq.refl _ | omega))) | ((with_reducible fail_if_success first | constructor | show False); conv => whnf)
    refine Need.mk (eS ?_) ?_
    · rw [Dsk.read, rdL_none (all_of_getD fun j hj => hk2 j (Nat.zero_le _) hj)]; rfl
    · repeat' first | (with_reducible first | refine wkI ?_ | exact ⟨⟩ | refine wkB (fun _ => ?_) fun _ => ?_ | refine wkT (fun _ => ?_) ?_ | refine wkE ?_) | ((with_reducible fail_if_success first | constructor | show False); conv => whnf)
def refSync (d : Dsk) : Dsk := ⟨(List.range d.secs.length).map d.read, []⟩
theorem range_snoc {α : Type} (f : Nat → α) (i : Nat) : (List.range (i + 1)).map f = (List.range i).map f ++ [f i] := by
  rw [List.range_succ, List.map_append]; rfl
def mapR {α : Type} (f : Nat → α) (i : Nat) : List α := (List.range i).map f
theorem mapR_len {α : Type} (f : Nat → α) (i : Nat) : (mapR f i).length = i := by unfold mapR; simp
theorem mapR_succ {α : Type} (f : Nat → α) (i : Nat) : mapR f (i + 1) = mapR f i ++ [f i] := range_snoc f i
theorem rsync_ok (K : KRef P F) (d : Dsk) (S : Small d) : FnOk P (F 42) [.many 2 (dskE d)] [.many 2 (fun j => .im (dskE (refSync d) j))] := by
  refine fnOk K.m K.sync ?_
  have hs := S.s
  have hc := S.c
  repeat' first | (with_reducible first | refine wkI ?_ | exact ⟨⟩ | refine wkB (fun _ => ?_) fun _ => ?_ | refine wkT (fun _ => ?_) ?_ | refine wkS ?_) | ((with_reducible fail_if_success first | constructor | show False); conv => whnf)
  refine LoopVC.inv (fun i : Nat => i ≤ d.secs.length) (fun i => stL [(1, .va 1 0 0), (2, .va 2 0 0), (3, .va 3 0 0), (4, .c (.int .i64 i))]
      [(1, vE [.c (slL 1 strE d.secs), .c (slL 2 wrE d.cache)]), (2, vE [.nil 1, .nil 2]), (3, vE [.os 18 0 1 0 i, .nil 2]), (18, ⟨1, i, .dat fun r j => strE ((mapR d.read i).getD r default) j, false, true⟩)])
      (fun i => d.secs.length - i) 0 (Nat.zero_le _) ?_ ?_
  · refine Le.ofN [18] ⟨.inl ⟨rfl, rfl, rfl⟩, .inl ⟨rfl, rfl, rfl⟩, .inl ⟨rfl, rfl, rfl⟩, .inl rfl, trivial⟩
        ⟨.inr ⟨rfl, _, rfl, .of (SubE.var2 (CEq.refl _) (CEq.refl _))⟩, .inr ⟨rfl, _, rfl, .of (SubE.var2 trivial trivial)⟩, .inr ⟨rfl, _, rfl, .var2 (.inr ⟨_, _, _, rfl, rfl, rfl⟩) (.inl trivial)⟩, .inl ⟨rfl, rfl⟩, trivial⟩
  rintro Q hQ i hi
  repeat' first | (with_reducible first | refine wkI ?_ | exact ⟨⟩ | refine wkB (fun _ => ?_) fun _ => ?_ | refine wkT (fun _ => ?_) ?_ | refine wkS ?_) | ((with_reducible fail_if_success first | constructor | show False); conv => whnf)
  · rename_i h3
    simp only [decide_eq_true_eq] at h3
    refine CallVC.mk' (fun _ => rread_ok K d i S (by omega)) (fun _ => .cons ((mC2 (by rfl))) (.cons (.one (CEq.refl _)) .nil)) ?_
    repeat' first | (with_reducible first | refine wkI ?_ | exact ⟨⟩ | refine wkB (fun _ => ?_) fun _ => ?_ | refine wkT (fun _ => ?_) ?_ | refine wkS ?_) | ((with_reducible fail_if_success first | constructor | show False); conv => whnf)
    refine LoopEnd.mk ⟨i + 1, by omega, by omega, ?_⟩
    refine Le.of ⟨⟨rfl, rfl, rfl⟩, ⟨rfl, rfl, rfl⟩, ⟨rfl, rfl, rfl⟩, cI (by simp), trivial⟩
      ⟨⟨_, rfl, SubE.var2 (CEq.refl _) (CEq.refl _)⟩, ⟨_, rfl, SubE.var2 trivial trivial⟩, ⟨_, rfl, SubE.var2 ⟨rfl, rfl, rfl, rfl, rfl⟩ trivial⟩, ⟨_, rfl, SubE.dat fun r hr j hj => ?_⟩, trivial⟩
    have hj : j < 1 := hj
    rw [mapR_succ]
    refine appC_list (size := 1) (mapR_len _ _).symm (fun i _ j _ => CEq.refl _) (fun j hj => ?_) r (by rw [List.length_append, mapR_len]; exact hr) j hj
    obtain rfl : j = 0 := by omega
    exact CEq.refl _
  · rename_i h3
    simp only [decide_eq_false_iff_not] at h3
    obtain rfl : i = d.secs.length := by omega
    refine Out.mk (hQ _ _ ?_)
    repeat' first | (with_reducible first | refine wkI ?_ | exact ⟨⟩ | refine wkB (fun _ => ?_) fun _ => ?_ | refine wkT (fun _ => ?_) ?_ | refine wkF ?_) | ((with_reducible fail_if_success first | constructor | show False); conv => whnf)
    refine Need.mk (CEq.list (mapR_len _ _).symm fun k hk j hj => ?_) ?_
    · rw [addN_eq, Nat.zero_add]; exact CEq.refl _
    repeat' first | (with_reducible first | refine wkI ?_ | exact ⟨⟩ | refine wkB (fun _ => ?_) fun _ => ?_ | refine wkT (fun _ => ?_) ?_ | refine wkF ?_) | ((with_reducible fail_if_success first | constructor | show False); conv => whnf)
    refine Need.mk ceq_nil ?_
    repeat' first | (with_reducible first | refine wkI ?_ | exact ⟨⟩ | refine wkB (fun _ => ?_) fun _ => ?_ | refine wkT (fun _ => ?_) ?_ | refine wkF ?_) | ((with_reducible fail_if_success first | constructor | show False); conv => whnf)
end
end Lk.S03
namespace Lk.S03
open Go Lk Lk.C
def crL (c : List Wr) (keep : List Int) (at_ : Int) (s : List UInt8) : Nat → List UInt8
  | 0 => s
  | i + 1 => if (c.getD i default).at_ = at_ ∧ (i : Int) ∈ keep then (c.getD i default).data else crL c keep at_ s i
def crA (d : Dsk) (keep : List Int) (k : Nat) : List UInt8 := crL d.cache keep k (d.secs.getD k default) d.cache.length
def refCrash (d : Dsk) (keep : List Int) : Dsk := ⟨mapR (crA d keep) d.secs.length, []⟩
theorem rdL_snoc {l : List Wr} {w : Wr} {at_ : Int} {s : List UInt8} : rdL (l ++ [w]) at_ s = if w.at_ = at_ then w.data else rdL l at_ s := by
  unfold rdL; rw [List.foldl_append]; rfl
theorem crL_eq (c : List Wr) (keep : List Int) (at_ : Int) (s : List UInt8) (i : Nat) : crL c keep at_ s i = rdL (kpL c keep i) at_ s := by
  induction i with
  | zero => rfl
  | succ i ih =>
    show (if _ then _ else _) = rdL (if (i : Int) ∈ keep then kpL c keep i ++ [c.getD i default] else kpL c keep i) at_ s
    by_cases h : (i : Int) ∈ keep
    · rw [if_pos h, rdL_snoc, ih]
      by_cases h2 : (c.getD i default).at_ = at_
      · rw [if_pos ⟨h2, h⟩, if_pos h2]
      · rw [if_neg (fun x => h2 x.1), if_neg h2]
    · rw [if_neg h, if_neg (fun x => h x.2), ih]
theorem wrS_at {l : List Wr} : ∀ {secs : List (List UInt8)} {k : Nat}, k < secs.length → (∀ w ∈ l, 0 ≤ w.at_ ∧ w.at_ < secs.length) → (wrS secs l).getD k default = rdL l k (secs.getD k default) := by
  induction l with
  | nil => intro _ _ _ _; rfl
  | cons w l ih =>
    intro secs k hk h
    show (wrS (secs.set w.at_.toNat w.data) l).getD k default = rdL l k (if w.at_ = (k : Int) then w.data else secs.getD k default)
    have hw := h w (by simp)
    rw [ih (by rw [List.length_set]; exact hk) (fun x hx => by rw [List.length_set]; exact h x (by simp [hx])), set_getD (by omega)]
    congr 1
    by_cases e : w.at_.toNat = k
    · rw [if_pos e, if_pos (by omega)]
    · rw [if_neg e, if_neg (by omega)]
theorem mapR_at {α : Type} [Inhabited α] {f : Nat → α} {n i : Nat} (h : i < n) : (mapR f n).getD i default = f i := by
  rw [getD_eq (by rw [mapR_len]; exact h)]; unfold mapR; simp
theorem wrS_mapR {secs : List (List UInt8)} {l : List Wr} (h : ∀ w ∈ l, 0 ≤ w.at_ ∧ w.at_ < secs.length) : wrS secs l = mapR (fun k => rdL l k (secs.getD k default)) secs.length := by
  refine eq_of_getD (by rw [wrS_len, mapR_len]) fun i hi => ?_
  rw [wrS_len] at hi
  rw [wrS_at hi h, mapR_at hi]
variable {d : Dsk} {keep : List Int} {w : Wr}
theorem right.rng (h : right d) : ∀ w ∈ d.cache, 0 ≤ w.at_ ∧ w.at_ < d.secs.length := fun w hw => ⟨(h.2.2.2.2 w hw).1, (h.2.2.2.2 w hw).2.1⟩
theorem sync_ref (h : right d) : d.sync = refSync d := by
  unfold Dsk.sync refSync
  rw [if_pos h, wrS_mapR h.rng]; rfl
theorem crash_ref (h : right d) : d.crash keep = refCrash d keep := by
  unfold Dsk.crash refCrash
  rw [if_pos h, wrS_mapR (fun w hw => h.rng w (kpL_mem (Nat.le_refl _) w hw))]
  congr 2
  funext k
  unfold crA
  rw [crL_eq]
theorem rdL_mem {l : List Wr} {at_ : Int} {s : List UInt8} : rdL l at_ s = s ∨ ∃ w ∈ l, w.at_ = at_ ∧ rdL l at_ s = w.data := by
  induction l generalizing s with
  | nil => exact .inl rfl
  | cons w l ih =>
    have e : rdL (w :: l) at_ s = rdL l at_ (if w.at_ = at_ then w.data else s) := rfl
    rw [e]
    rcases ih (s := if w.at_ = at_ then w.data else s) with h | ⟨x, hx, h1, h2⟩
    · rw [h]
      by_cases hw : w.at_ = at_
      · right; rw [if_pos hw]; exact ⟨w, by simp, hw, rfl⟩
      · left; rw [if_neg hw]
    · right; exact ⟨x, by simp [hx], h1, h2⟩
theorem wrS_16 {secs : List (List UInt8)} {l : List Wr} (h : ∀ w ∈ l, 0 ≤ w.at_ ∧ w.at_ < secs.length) (hs : ∀ s ∈ secs, s.length = 16) (hw : ∀ w ∈ l, w.data.length = 16) : ∀ s ∈ wrS secs l, s.length = 16 := by
  refine all_of_getD fun i hi => ?_
  rw [wrS_len] at hi
  rw [wrS_at hi h]
  rcases rdL_mem (l := l) (at_ := i) (s := secs.getD i default) with e | ⟨w, hwm, _, e⟩
  · rw [e]; exact hs _ (getD_mem hi)
  · rw [e]; exact hw w hwm
theorem right_after {l : List Wr} (h : right d) (hl : ∀ w ∈ l, w ∈ d.cache) : right ⟨wrS d.secs l, []⟩ :=
  ⟨by rw [wrS_len]; exact h.1, by rw [wrS_len]; exact h.2.1, by show 0 ≤ 200; omega, wrS_16 (fun w hw => h.rng w (hl w hw)) h.2.2.2.1 (fun w hw => (h.2.2.2.2 w (hl w hw)).2.2), fun w hw => by cases hw⟩
theorem right.small (h : right d) : Small d :=
  ⟨by have := h.2.1; omega, by have := h.2.2.1; omega, fun s hs => by have := h.2.2.2.1 s hs; omega, fun w hw => by have := (h.2.2.2.2 w hw).2.2; omega⟩
theorem right.crash (h : right d) : right (d.crash keep) := by
  unfold Dsk.crash; rw [if_pos h]; exact right_after h (kpL_mem (Nat.le_refl _))
theorem right.sync (h : right d) : right d.sync := by
  unfold Dsk.sync; rw [if_pos h]; exact right_after h fun _ => id
theorem Small.crash (S : Small d) : Small (d.crash keep) := by
  by_cases h : right d
  · exact h.crash.small
  · unfold Dsk.crash; rw [if_neg h]; exact S
theorem Small.sync (S : Small d) : Small d.sync := by
  by_cases h : right d
  · exact h.sync.small
  · unfold Dsk.sync; rw [if_neg h]; exact S
theorem right.put (h : right d) : right (d.put w) := by
  unfold Dsk.put
  split
  · next h2 =>
    refine ⟨h.1, h.2.1, by show (d.cache ++ [w]).length ≤ 200; rw [List.length_append]; show _ + 1 ≤ _; omega, h.2.2.2.1, fun x hx => ?_⟩
    rcases List.mem_append.1 hx with hx | hx
    · exact h.2.2.2.2 x hx
    · rw [List.mem_singleton] at hx; subst hx; exact h2.2.1
  · exact h
theorem Small.put (S : Small d) : Small (d.put w) := by
  by_cases h : right d
  · exact h.put.small
  · unfold Dsk.put; rw [if_neg (fun x => h x.1)]; exact S
section
variable {P : Program} {F : Nat → Nat}
theorem rcrash_ok (K : KRefC P F) (d : Dsk) (keep : List Int) (S : Small d) (hk : keep.length ≤ 1000000) : FnOk P (F 43) [.many 2 (dskE d), .one (slL 1 intE keep)] [.many 2 (fun j => .im (dskE (refCrash d keep) j))] := by
  refine fnOk K.m K.crash ?_
  have hs := S.s
  have hc := S.c
  repeat' first | (with_reducible first | refine wkI ?_ | exact ⟨⟩ | refine wkB (fun _ => ?_) fun _ => ?_ | refine wkT (fun _ => ?_) ?_ | refine wkS ?_) | ((with_reducible fail_if_success first | constructor | show False); conv => whnf)
  refine LoopVC.inv (fun i : Nat => i ≤ d.secs.length) (fun i => stL [(1, .c (slL 1 intE keep)), (2, .va 2 0 0), (4, .va 4 0 0), (5, .va 5 0 0), (6, .c (.int .i64 i))]
      [(2, vE [.c (slL 1 strE d.secs), .c (slL 2 wrE d.cache)]), (4, vE [.nil 1, .nil 2]), (5, vE [.os 51 0 1 0 i, .nil 2]), (51, ⟨1, i, .dat fun r j => strE ((mapR (crA d keep) i).getD r default) j, false, true⟩)])
      (fun i => d.secs.length - i) 0 (Nat.zero_le _) ?_ ?_
  · refine Le.ofN [51] ⟨.inl (CEq.refl _), .inl ⟨rfl, rfl, rfl⟩, .inl ⟨rfl, rfl, rfl⟩, .inl ⟨rfl, rfl, rfl⟩, .inl rfl, trivial⟩
        ⟨.inr ⟨rfl, _, rfl, .of (SubE.var2 (CEq.refl _) (CEq.refl _))⟩, .inr ⟨rfl, _, rfl, .of (SubE.var2 trivial trivial)⟩, .inr ⟨rfl, _, rfl, .var2 (.inr ⟨_, _, _, rfl, rfl, rfl⟩) (.inl trivial)⟩, .inl ⟨rfl, rfl⟩, trivial⟩
  rintro Q hQ i hi
  repeat' first | (with_reducible first | refine wkI ?_ | exact ⟨⟩ | refine wkB (fun _ => ?_) fun _ => ?_ | refine wkT (fun _ => ?_) ?_ | refine wkS ?_) | ((with_reducible fail_if_success first | constructor | show False); conv => whnf)
  · rename_i h3
    simp only [decide_eq_true_eq] at h3
    refine LoopVC.inv (fun k : Nat => k ≤ d.cache.length) (fun k => stL [(1, .c (slL 1 intE keep)), (2, .va 2 0 0), (4, .va 4 0 0), (5, .va 5 0 0), (6, .c (.int .i64 i)), (7, .c (.str (crL d.cache keep i (d.secs.getD i default) k))), (8, .c (.int .i64 k))]
      [(2, vE [.c (slL 1 strE d.secs), .c (slL 2 wrE d.cache)]), (4, vE [.nil 1, .nil 2]), (5, vE [.os 51 0 1 0 i, .nil 2]), (51, ⟨1, i, .dat fun r j => strE ((mapR (crA d keep) i).getD r default) j, false, true⟩)])
      (fun k => d.cache.length - k) 0 (Nat.zero_le _) ?_ ?_
    · refine Le.of ⟨CEq.refl _, ⟨rfl, rfl, rfl⟩, ⟨rfl, rfl, rfl⟩, ⟨rfl, rfl, rfl⟩, rfl, cS ?_, rfl, trivial⟩
        ⟨⟨_, rfl, SubE.var2 (CEq.refl _) (CEq.refl _)⟩, ⟨_, rfl, SubE.var2 trivial trivial⟩, ⟨_, rfl, SubE.var2 ⟨rfl, rfl, rfl, rfl, rfl⟩ trivial⟩, ⟨_, rfl, SubE.dat fun _ _ _ _ => CEq.refl _⟩, trivial⟩
      rw [Int.toNat_natCast]; rfl
    rintro Q2 hQ2 k hk2
    repeat' first | (with_reducible first | refine wkI ?_ | exact ⟨⟩ | refine wkB (fun _ => ?_) fun _ => ?_ | refine wkT (fun _ => ?_) ?_ | refine wkS ?_) | ((with_reducible fail_if_success first | constructor | show False); conv => whnf)
    · rename_i h4
      simp only [decide_eq_true_eq] at h4
      refine CallVC.mk' (fun _ => in_ok K keep k hk) (fun _ => .cons (.one (CEq.refl _)) (.cons (.one (CEq.refl _)) .nil)) ?_
      repeat' first | (with_reducible first | refine wkI ?_ | exact ⟨⟩ | refine wkB (fun _ => ?_) fun _ => ?_ | refine wkT (fun _ => ?_) ?_ | refine wkS ?_) | ((with_reducible fail_if_success first | constructor | show False); conv => whnf)
      · rename_i h5
        simp only [Bool.and_eq_true, decide_eq_true_eq, Int.toNat_natCast] at h5
        refine LoopEnd.mk ⟨k + 1, by omega, by omega, ?_⟩
        refine Le.of ⟨CEq.refl _, ⟨rfl, rfl, rfl⟩, ⟨rfl, rfl, rfl⟩, ⟨rfl, rfl, rfl⟩, rfl, cS ?_, cI (by simp), trivial⟩
          ⟨⟨_, rfl, SubE.var2 (CEq.refl _) (CEq.refl _)⟩, ⟨_, rfl, SubE.var2 trivial trivial⟩, ⟨_, rfl, SubE.var2 ⟨rfl, rfl, rfl, rfl, rfl⟩ trivial⟩, ⟨_, rfl, SubE.dat fun _ _ _ _ => CEq.refl _⟩, trivial⟩
        show _ = if _ then _ else _
        rw [if_pos h5, Int.toNat_natCast]
      · rename_i h5
        simp only [Bool.and_eq_false_iff, decide_eq_false_iff_not, Int.toNat_natCast] at h5
        refine LoopEnd.mk ⟨k + 1, by omega, by omega, ?_⟩
        refine Le.of ⟨CEq.refl _, ⟨rfl, rfl, rfl⟩, ⟨rfl, rfl, rfl⟩, ⟨rfl, rfl, rfl⟩, rfl, cS ?_, cI (by simp), trivial⟩
          ⟨⟨_, rfl, SubE.var2 (CEq.refl _) (CEq.refl _)⟩, ⟨_, rfl, SubE.var2 trivial trivial⟩, ⟨_, rfl, SubE.var2 ⟨rfl, rfl, rfl, rfl, rfl⟩ trivial⟩, ⟨_, rfl, SubE.dat fun _ _ _ _ => CEq.refl _⟩, trivial⟩
        show _ = if _ then _ else _
        rw [if_neg (fun h => h5.elim (fun x => x h.1) (fun x => x h.2))]
    · rename_i h4
      simp only [decide_eq_false_iff_not] at h4
      obtain rfl : k = d.cache.length := by omega
      refine Out.mk (hQ2 _ _ ?_)
      repeat' first | (with_reducible first | refine wkI ?_ | exact ⟨⟩ | refine wkB (fun _ => ?_) fun _ => ?_ | refine wkT (fun _ => ?_) ?_ | refine wkS ?_) | ((with_reducible fail_if_success first | constructor | show False); conv => whnf)
      refine LoopEnd.mk ⟨i + 1, by omega, by omega, ?_⟩
      refine Le.of ⟨CEq.refl _, ⟨rfl, rfl, rfl⟩, ⟨rfl, rfl, rfl⟩, ⟨rfl, rfl, rfl⟩, cI (by simp), trivial⟩
        ⟨⟨_, rfl, SubE.var2 (CEq.refl _) (CEq.refl _)⟩, ⟨_, rfl, SubE.var2 trivial trivial⟩, ⟨_, rfl, SubE.var2 ⟨rfl, rfl, rfl, rfl, rfl⟩ trivial⟩, ⟨_, rfl, SubE.dat fun r hr j hj => ?_⟩, trivial⟩
      have hj : j < 1 := hj
      rw [mapR_succ]
      refine appC_list (size := 1) (mapR_len _ _).symm (fun i _ j _ => CEq.refl _) (fun j hj => ?_) r (by rw [List.length_append, mapR_len]; exact hr) j hj
      obtain rfl : j = 0 := by omega
      exact CEq.refl _
  · rename_i h3
    simp only [decide_eq_false_iff_not] at h3
    obtain rfl : i = d.secs.length := by omega
    refine Out.mk (hQ _ _ ?_)
    repeat' first | (with_reducible first | refine wkI ?_ | exact ⟨⟩ | refine wkB (fun _ => ?_) fun _ => ?_ | refine wkT (fun _ => ?_) ?_ | refine wkF ?_) | ((with_reducible fail_if_success first | constructor | show False); conv => whnf)
    refine Need.mk (CEq.list (mapR_len _ _).symm fun k hk j hj => ?_) ?_
    · rw [addN_eq, Nat.zero_add]; exact CEq.refl _
    repeat' first | (with_reducible first | refine wkI ?_ | exact ⟨⟩ | refine wkB (fun _ => ?_) fun _ => ?_ | refine wkT (fun _ => ?_) ?_ | refine wkF ?_) | ((with_reducible fail_if_success first | constructor | show False); conv => whnf)
    refine Need.mk ceq_nil ?_
    repeat' first | (with_reducible first | refine wkI ?_ | exact ⟨⟩ | refine wkB (fun _ => ?_) fun _ => ?_ | refine wkT (fun _ => ?_) ?_ | refine wkF ?_) | ((with_reducible fail_if_success first | constructor | show False); conv => whnf)
end
end Lk.S03
namespace Lk.S03
open Go Lk Lk.C
variable {d : Dsk}
theorem sync_cache (h : right d) : d.sync.cache = [] := by unfold Dsk.sync; rw [if_pos h]
theorem sync_len (h : right d) : d.sync.secs.length = d.secs.length := by unfold Dsk.sync; rw [if_pos h]; exact wrS_len
theorem rd_in {d : Dsk} {i : Nat} (h : right d) (hi : i < d.secs.length) : d.rd i = (d.read i, 0) := by
  unfold Dsk.rd; rw [if_pos ⟨h, by omega, by omega⟩, Int.toNat_natCast]
theorem read_sync {i : Nat} (h : right d) (hi : i < d.secs.length) : d.sync.read i = d.read i := by
  unfold Dsk.sync Dsk.read
  rw [if_pos h]
  exact wrS_at hi h.rng
section
variable {P : Program} {F : Nat → Nat}
end
end Lk.S03
namespace Lk.S03
open Go Lk Lk.C
variable {d : Dsk} {w : Wr}
theorem put_len : (d.put w).secs.length = d.secs.length := by unfold Dsk.put; split <;> rfl
theorem read_put {i : Nat} (h : right d) : (d.put w).read i = if d.putE w = 0 ∧ (i : Int) = w.at_ then w.data else d.read i := by
  by_cases hf : fits d w
  · by_cases hn : d.cache.length < 200
    · rw [show d.put w = ⟨d.secs, d.cache ++ [w]⟩ by unfold Dsk.put; exact if_pos ⟨h, hf, hn⟩, show d.putE w = 0 by unfold Dsk.putE; rw [if_pos ⟨h, hf⟩]; exact if_pos hn]
      show rdL (d.cache ++ [w]) i _ = _
      rw [rdL_snoc]
      by_cases e : w.at_ = (i : Int)
      · rw [if_pos e, if_pos ⟨rfl, e.symm⟩]
      · rw [if_neg e, if_neg (fun x => e x.2.symm)]; rfl
    · rw [show d.put w = d by unfold Dsk.put; exact if_neg fun x => hn x.2.2, show d.putE w = 7 by unfold Dsk.putE; rw [if_pos ⟨h, hf⟩]; exact if_neg hn, if_neg (fun x => by have := x.1; omega)]
  · rw [show d.put w = d by unfold Dsk.put; exact if_neg fun x => hf x.2.1, show d.putE w = 1 by unfold Dsk.putE; exact if_neg fun x => hf x.2, if_neg (fun x => by have := x.1; omega)]
section
variable {P : Program} {F : Nat → Nat}
end
end Lk.S03
