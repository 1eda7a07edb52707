/-
  Chapter 3: the reference's Crash; plain laws.
-/
import Derived.Test.YtihjalnebgjmgaaW03e
namespace Lk.S03
open Go Lk Lk.C

def crL (c : List Wr) (keep : List Int) (at_ : Int) (s : List UInt8) : Nat → List UInt8
  | 0 => s
  | i + 1 => if (c.getD i default).at_ = at_ ∧ (i : Int) ∈ keep then (c.getD i default).data else crL c keep at_ s i
def crA (d : Dsk) (keep : List Int) (k : Nat) : List UInt8 := crL d.cache keep k (d.secs.getD k default) d.cache.length
def refCrash (d : Dsk) (keep : List Int) : Dsk := ⟨mapR (crA d keep) d.secs.length, []⟩

theorem rdL_snoc {l : List Wr} {w : Wr} {at_ : Int} {s : List UInt8} : rdL (l ++ [w]) at_ s = if w.at_ = at_ then w.data else rdL l at_ s := by
  unfold rdL; rw [List.foldl_append]; rfl
theorem crL_eq (c : List Wr) (keep : List Int) (at_ : Int) (s : List UInt8) (i : Nat) : crL c keep at_ s i = rdL (kpL c keep i) at_ s := by
  induction i with
  | zero => rfl
  | succ i ih =>
    show (if _ then _ else _) = rdL (if (i : Int) ∈ keep then kpL c keep i ++ [c.getD i default] else kpL c keep i) at_ s
    by_cases h : (i : Int) ∈ keep
    · rw [if_pos h, rdL_snoc, ih]
      by_cases h2 : (c.getD i default).at_ = at_
      · rw [if_pos ⟨h2, h⟩, if_pos h2]
      · rw [if_neg (fun x => h2 x.1), if_neg h2]
    · rw [if_neg h, if_neg (fun x => h x.2), ih]
theorem wrS_at {l : List Wr} : ∀ {secs : List (List UInt8)} {k : Nat}, k < secs.length → (∀ w ∈ l, 0 ≤ w.at_ ∧ w.at_ < secs.length) → (wrS secs l).getD k default = rdL l k (secs.getD k default) := by
  induction l with
  | nil => intro _ _ _ _; rfl
  | cons w l ih =>
    intro secs k hk h
    show (wrS (secs.set w.at_.toNat w.data) l).getD k default = rdL l k (if w.at_ = (k : Int) then w.data else secs.getD k default)
    have hw := h w (by simp)
    rw [ih (by rw [List.length_set]; exact hk) (fun x hx => by rw [List.length_set]; exact h x (by simp [hx])), set_getD (by omega)]
    congr 1
    by_cases e : w.at_.toNat = k
    · rw [if_pos e, if_pos (by omega)]
    · rw [if_neg e, if_neg (by omega)]
theorem mapR_at {α : Type} [Inhabited α] {f : Nat → α} {n i : Nat} (h : i < n) : (mapR f n).getD i default = f i := by
  rw [getD_eq (by rw [mapR_len]; exact h)]; unfold mapR; simp
theorem wrS_mapR {secs : List (List UInt8)} {l : List Wr} (h : ∀ w ∈ l, 0 ≤ w.at_ ∧ w.at_ < secs.length) : wrS secs l = mapR (fun k => rdL l k (secs.getD k default)) secs.length := by
  refine eq_of_getD (by rw [wrS_len, mapR_len]) fun i hi => ?_
  rw [wrS_len] at hi
  rw [wrS_at hi h, mapR_at hi]

variable {d : Dsk} {keep : List Int} {w : Wr}
theorem right.rng (h : right d) : ∀ w ∈ d.cache, 0 ≤ w.at_ ∧ w.at_ < d.secs.length := fun w hw => ⟨(h.2.2.2.2 w hw).1, (h.2.2.2.2 w hw).2.1⟩
theorem sync_ref (h : right d) : d.sync = refSync d := by
  unfold Dsk.sync refSync
  rw [if_pos h, wrS_mapR h.rng]; rfl
theorem crash_ref (h : right d) : d.crash keep = refCrash d keep := by
  unfold Dsk.crash refCrash
  rw [if_pos h, wrS_mapR (fun w hw => h.rng w (kpL_mem (Nat.le_refl _) w hw))]
  congr 2
  funext k
  unfold crA
  rw [crL_eq]
theorem rdL_mem {l : List Wr} {at_ : Int} {s : List UInt8} : rdL l at_ s = s ∨ ∃ w ∈ l, w.at_ = at_ ∧ rdL l at_ s = w.data := by
  induction l generalizing s with
  | nil => exact .inl rfl
  | cons w l ih =>
    have e : rdL (w :: l) at_ s = rdL l at_ (if w.at_ = at_ then w.data else s) := rfl
    rw [e]
    rcases ih (s := if w.at_ = at_ then w.data else s) with h | ⟨x, hx, h1, h2⟩
    · rw [h]
      by_cases hw : w.at_ = at_
      · right; rw [if_pos hw]; exact ⟨w, by simp, hw, rfl⟩
      · left; rw [if_neg hw]
    · right; exact ⟨x, by simp [hx], h1, h2⟩
theorem wrS_16 {secs : List (List UInt8)} {l : List Wr} (h : ∀ w ∈ l, 0 ≤ w.at_ ∧ w.at_ < secs.length) (hs : ∀ s ∈ secs, s.length = 16) (hw : ∀ w ∈ l, w.data.length = 16) : ∀ s ∈ wrS secs l, s.length = 16 := by
  refine all_of_getD fun i hi => ?_
  rw [wrS_len] at hi
  rw [wrS_at hi h]
  rcases rdL_mem (l := l) (at_ := i) (s := secs.getD i default) with e | ⟨w, hwm, _, e⟩
  · rw [e]; exact hs _ (getD_mem hi)
  · rw [e]; exact hw w hwm
theorem right_after {l : List Wr} (h : right d) (hl : ∀ w ∈ l, w ∈ d.cache) : right ⟨wrS d.secs l, []⟩ :=
  ⟨by rw [wrS_len]; exact h.1, by rw [wrS_len]; exact h.2.1, by show 0 ≤ 200; omega, wrS_16 (fun w hw => h.rng w (hl w hw)) h.2.2.2.1 (fun w hw => (h.2.2.2.2 w (hl w hw)).2.2), fun w hw => by cases hw⟩
theorem right.small (h : right d) : Small d :=
  ⟨by have := h.2.1; omega, by have := h.2.2.1; omega, fun s hs => by have := h.2.2.2.1 s hs; omega, fun w hw => by have := (h.2.2.2.2 w hw).2.2; omega⟩
theorem right.crash (h : right d) : right (d.crash keep) := by
  unfold Dsk.crash; rw [if_pos h]; exact right_after h (kpL_mem (Nat.le_refl _))
theorem right.sync (h : right d) : right d.sync := by
  unfold Dsk.sync; rw [if_pos h]; exact right_after h fun _ => id
theorem Small.crash (S : Small d) : Small (d.crash keep) := by
  by_cases h : right d
  · exact h.crash.small
  · unfold Dsk.crash; rw [if_neg h]; exact S
theorem Small.sync (S : Small d) : Small d.sync := by
  by_cases h : right d
  · exact h.sync.small
  · unfold Dsk.sync; rw [if_neg h]; exact S
theorem right.put (h : right d) : right (d.put w) := by
  unfold Dsk.put
  split
  · next h2 =>
    refine ⟨h.1, h.2.1, by show (d.cache ++ [w]).length ≤ 200; rw [List.length_append]; show _ + 1 ≤ _; omega, h.2.2.2.1, fun x hx => ?_⟩
    rcases List.mem_append.1 hx with hx | hx
    · exact h.2.2.2.2 x hx
    · rw [List.mem_singleton] at hx; subst hx; exact h2.2.1
  · exact h
theorem Small.put (S : Small d) : Small (d.put w) := by
  by_cases h : right d
  · exact h.put.small
  · unfold Dsk.put; rw [if_neg (fun x => h x.1)]; exact S

section
variable {P : Program} {F : Nat → Nat}

set_option maxHeartbeats 8000000 in
set_option maxRecDepth 100000 in
theorem rcrash_ok (K : KRefC P F) (d : Dsk) (keep : List Int) (S : Small d) (hk : keep.length ≤ 1000000) : FnOk P (F 43) [.many 2 (dskE d), .one (slL 1 intE keep)] [.many 2 (fun j => .im (dskE (refCrash d keep) j))] := by
  refine fnOk K.m K.crash ?_
  have hs := S.s
  have hc := S.c
  repeat' first
    | with_reducible refine NeedI.mk (fun h => h) ?_
    | with_reducible refine NeedI.mk (fun h => h.2) ?_
    | with_reducible refine NeedI.mk (fun h => h.1) ?_
    | with_reducible exact Done.mk
    | with_reducible refine Both.mk (fun _ => ?_) (fun _ => ?_)
    | with_reducible refine Both2.mk (fun _ => ?_) ?_
    | with_reducible refine Need.mk (by first | omega | with_reducible exact CEq.refl _ | (simp only [decide_eq_true_eq, decide_eq_false_iff_not, Bool.or_eq_true, Bool.and_eq_true, Bool.or_eq_false_iff, Int.toNat_natCast, addN_eq, cond_false, cond_true, rng] at *; omega)) ?_
    | (fail_if_success with_reducible refine LoopVC.mk ?_
       fail_if_success with_reducible refine Need.mk ?_ ?_
       fail_if_success with_reducible refine CallVC.mk ?_
       fail_if_success with_reducible refine LoopEnd.mk ?_
       fail_if_success with_reducible refine Out.mk ?_
       fail_if_success with_reducible show False
       fail_if_success with_reducible refine NeedI.mk ?_ ?_
       conv => whnf)
  refine LoopVC.inv (fun i : Nat => i ≤ d.secs.length) (fun i => stL [(1, .c (slL 1 intE keep)), (2, .va 2 0 0), (4, .va 4 0 0), (5, .va 5 0 0), (6, .c (.int .i64 i))]
      [(2, vE [.c (slL 1 strE d.secs), .c (slL 2 wrE d.cache)]), (4, vE [.nil 1, .nil 2]), (5, vE [.os 51 0 1 0 i, .nil 2]), (51, ⟨1, i, .dat fun r j => strE ((mapR (crA d keep) i).getD r default) j, false, true⟩)])
      (fun i => d.secs.length - i) 0 (Nat.zero_le _) ?_ ?_
  · refine Le.ofN [51] ⟨.inl (CEq.refl _), .inl ⟨rfl, rfl, rfl⟩, .inl ⟨rfl, rfl, rfl⟩, .inl ⟨rfl, rfl, rfl⟩, .inl rfl, trivial⟩
        ⟨.inr ⟨rfl, _, rfl, .of (SubE.var2 (CEq.refl _) (CEq.refl _))⟩, .inr ⟨rfl, _, rfl, .of (SubE.var2 trivial trivial)⟩, .inr ⟨rfl, _, rfl, .var2 (.inr ⟨_, _, _, rfl, rfl, rfl⟩) (.inl trivial)⟩, .inl ⟨rfl, rfl⟩, trivial⟩
  rintro Q hQ i hi
  repeat' first
    | with_reducible refine NeedI.mk (fun h => h) ?_
    | with_reducible refine NeedI.mk (fun h => h.2) ?_
    | with_reducible refine NeedI.mk (fun h => h.1) ?_
    | with_reducible exact Done.mk
    | with_reducible refine Both.mk (fun _ => ?_) (fun _ => ?_)
    | with_reducible refine Both2.mk (fun _ => ?_) ?_
    | with_reducible refine Need.mk (by first | with_reducible exact CEq.refl _ | omega | (simp only [decide_eq_true_eq, decide_eq_false_iff_not, Bool.or_eq_true, Bool.and_eq_true, Bool.or_eq_false_iff, Int.toNat_natCast, addN_eq, cond_false, cond_true, rng] at *; omega) | exact ⟨rfl, rfl⟩) ?_
    | (fail_if_success with_reducible refine LoopVC.mk ?_
       fail_if_success with_reducible refine Need.mk ?_ ?_
       fail_if_success with_reducible refine CallVC.mk ?_
       fail_if_success with_reducible refine LoopEnd.mk ?_
       fail_if_success with_reducible refine Out.mk ?_
       fail_if_success with_reducible show False
       fail_if_success with_reducible refine NeedI.mk ?_ ?_
       conv => whnf)
  · rename_i h3
    simp only [decide_eq_true_eq] at h3
    refine LoopVC.inv (fun k : Nat => k ≤ d.cache.length) (fun k => stL [(1, .c (slL 1 intE keep)), (2, .va 2 0 0), (4, .va 4 0 0), (5, .va 5 0 0), (6, .c (.int .i64 i)), (7, .c (.str (crL d.cache keep i (d.secs.getD i default) k))), (8, .c (.int .i64 k))]
      [(2, vE [.c (slL 1 strE d.secs), .c (slL 2 wrE d.cache)]), (4, vE [.nil 1, .nil 2]), (5, vE [.os 51 0 1 0 i, .nil 2]), (51, ⟨1, i, .dat fun r j => strE ((mapR (crA d keep) i).getD r default) j, false, true⟩)])
      (fun k => d.cache.length - k) 0 (Nat.zero_le _) ?_ ?_
    · refine Le.of ⟨CEq.refl _, ⟨rfl, rfl, rfl⟩, ⟨rfl, rfl, rfl⟩, ⟨rfl, rfl, rfl⟩, rfl, cS ?_, rfl, trivial⟩
        ⟨⟨_, rfl, SubE.var2 (CEq.refl _) (CEq.refl _)⟩, ⟨_, rfl, SubE.var2 trivial trivial⟩, ⟨_, rfl, SubE.var2 ⟨rfl, rfl, rfl, rfl, rfl⟩ trivial⟩, ⟨_, rfl, SubE.dat fun _ _ _ _ => CEq.refl _⟩, trivial⟩
      rw [Int.toNat_natCast]; rfl
    rintro Q2 hQ2 k hk2
    repeat' first
      | with_reducible refine NeedI.mk (fun h => h) ?_
      | with_reducible refine NeedI.mk (fun h => h.2) ?_
      | with_reducible refine NeedI.mk (fun h => h.1) ?_
      | with_reducible exact Done.mk
      | with_reducible refine Both.mk (fun _ => ?_) (fun _ => ?_)
      | with_reducible refine Both2.mk (fun _ => ?_) ?_
      | with_reducible refine Need.mk (by first | with_reducible exact CEq.refl _ | omega | (simp only [decide_eq_true_eq, decide_eq_false_iff_not, Bool.or_eq_true, Bool.and_eq_true, Bool.or_eq_false_iff, Int.toNat_natCast, addN_eq, cond_false, cond_true, rng] at *; omega) | exact ⟨rfl, rfl⟩) ?_
      | (fail_if_success with_reducible refine LoopVC.mk ?_
         fail_if_success with_reducible refine Need.mk ?_ ?_
         fail_if_success with_reducible refine CallVC.mk ?_
         fail_if_success with_reducible refine LoopEnd.mk ?_
         fail_if_success with_reducible refine Out.mk ?_
         fail_if_success with_reducible show False
         fail_if_success with_reducible refine NeedI.mk ?_ ?_
         conv => whnf)
    · rename_i h4
      simp only [decide_eq_true_eq] at h4
      refine CallVC.mk' (fun _ => in_ok K keep k hk) (fun _ => .cons (.one (CEq.refl _)) (.cons (.one (CEq.refl _)) .nil)) ?_
      repeat' first
        | with_reducible refine NeedI.mk (fun h => h) ?_
        | with_reducible refine NeedI.mk (fun h => h.2) ?_
        | with_reducible refine NeedI.mk (fun h => h.1) ?_
        | with_reducible exact Done.mk
        | with_reducible refine Both.mk (fun _ => ?_) (fun _ => ?_)
        | with_reducible refine Both2.mk (fun _ => ?_) ?_
        | with_reducible refine Need.mk (by first | with_reducible exact CEq.refl _ | omega | (simp only [decide_eq_true_eq, decide_eq_false_iff_not, Bool.or_eq_true, Bool.and_eq_true, Bool.or_eq_false_iff, Int.toNat_natCast, addN_eq, cond_false, cond_true, rng] at *; omega) | exact ⟨rfl, rfl⟩) ?_
        | (fail_if_success with_reducible refine LoopVC.mk ?_
           fail_if_success with_reducible refine Need.mk ?_ ?_
           fail_if_success with_reducible refine CallVC.mk ?_
           fail_if_success with_reducible refine LoopEnd.mk ?_
           fail_if_success with_reducible refine Out.mk ?_
           fail_if_success with_reducible show False
           fail_if_success with_reducible refine NeedI.mk ?_ ?_
           conv => whnf)
      · rename_i h5
        simp only [Bool.and_eq_true, decide_eq_true_eq, Int.toNat_natCast] at h5
        refine LoopEnd.mk ⟨k + 1, by omega, by omega, ?_⟩
        refine Le.of ⟨CEq.refl _, ⟨rfl, rfl, rfl⟩, ⟨rfl, rfl, rfl⟩, ⟨rfl, rfl, rfl⟩, rfl, cS ?_, cI (by simp), trivial⟩
          ⟨⟨_, rfl, SubE.var2 (CEq.refl _) (CEq.refl _)⟩, ⟨_, rfl, SubE.var2 trivial trivial⟩, ⟨_, rfl, SubE.var2 ⟨rfl, rfl, rfl, rfl, rfl⟩ trivial⟩, ⟨_, rfl, SubE.dat fun _ _ _ _ => CEq.refl _⟩, trivial⟩
        show _ = if _ then _ else _
        rw [if_pos h5, Int.toNat_natCast]
      · rename_i h5
        simp only [Bool.and_eq_false_iff, decide_eq_false_iff_not, Int.toNat_natCast] at h5
        refine LoopEnd.mk ⟨k + 1, by omega, by omega, ?_⟩
        refine Le.of ⟨CEq.refl _, ⟨rfl, rfl, rfl⟩, ⟨rfl, rfl, rfl⟩, ⟨rfl, rfl, rfl⟩, rfl, cS ?_, cI (by simp), trivial⟩
          ⟨⟨_, rfl, SubE.var2 (CEq.refl _) (CEq.refl _)⟩, ⟨_, rfl, SubE.var2 trivial trivial⟩, ⟨_, rfl, SubE.var2 ⟨rfl, rfl, rfl, rfl, rfl⟩ trivial⟩, ⟨_, rfl, SubE.dat fun _ _ _ _ => CEq.refl _⟩, trivial⟩
        show _ = if _ then _ else _
        rw [if_neg (fun h => h5.elim (fun x => x h.1) (fun x => x h.2))]
    · rename_i h4
      simp only [decide_eq_false_iff_not] at h4
      obtain rfl : k = d.cache.length := by omega
      refine Out.mk (hQ2 _ _ ?_)
      repeat' first
        | with_reducible refine NeedI.mk (fun h => h) ?_
        | with_reducible refine NeedI.mk (fun h => h.2) ?_
        | with_reducible refine NeedI.mk (fun h => h.1) ?_
        | with_reducible exact Done.mk
        | with_reducible refine Both.mk (fun _ => ?_) (fun _ => ?_)
        | with_reducible refine Both2.mk (fun _ => ?_) ?_
        | with_reducible refine Need.mk (by first | with_reducible exact CEq.refl _ | omega | (simp only [decide_eq_true_eq, decide_eq_false_iff_not, Bool.or_eq_true, Bool.and_eq_true, Bool.or_eq_false_iff, Int.toNat_natCast, addN_eq, cond_false, cond_true, rng] at *; omega) | exact ⟨rfl, rfl⟩) ?_
        | (fail_if_success with_reducible refine LoopVC.mk ?_
           fail_if_success with_reducible refine Need.mk ?_ ?_
           fail_if_success with_reducible refine CallVC.mk ?_
           fail_if_success with_reducible refine LoopEnd.mk ?_
           fail_if_success with_reducible refine Out.mk ?_
           fail_if_success with_reducible show False
           fail_if_success with_reducible refine NeedI.mk ?_ ?_
           conv => whnf)
      refine LoopEnd.mk ⟨i + 1, by omega, by omega, ?_⟩
      refine Le.of ⟨CEq.refl _, ⟨rfl, rfl, rfl⟩, ⟨rfl, rfl, rfl⟩, ⟨rfl, rfl, rfl⟩, cI (by simp), trivial⟩
        ⟨⟨_, rfl, SubE.var2 (CEq.refl _) (CEq.refl _)⟩, ⟨_, rfl, SubE.var2 trivial trivial⟩, ⟨_, rfl, SubE.var2 ⟨rfl, rfl, rfl, rfl, rfl⟩ trivial⟩, ⟨_, rfl, SubE.dat fun r hr j hj => ?_⟩, trivial⟩
      have hj : j < 1 := hj
      rw [mapR_succ]
      refine appC_list (size := 1) (mapR_len _ _).symm (fun i _ j _ => CEq.refl _) (fun j hj => ?_) r (by rw [List.length_append, mapR_len]; exact hr) j hj
      obtain rfl : j = 0 := by omega
      exact CEq.refl _
  · rename_i h3
    simp only [decide_eq_false_iff_not] at h3
    obtain rfl : i = d.secs.length := by omega
    refine Out.mk (hQ _ _ ?_)
    repeat' first
      | with_reducible refine NeedI.mk (fun h => h) ?_
      | with_reducible refine NeedI.mk (fun h => h.2) ?_
      | with_reducible refine NeedI.mk (fun h => h.1) ?_
      | with_reducible exact Done.mk
      | with_reducible refine Both.mk (fun _ => ?_) (fun _ => ?_)
      | with_reducible refine Both2.mk (fun _ => ?_) ?_
      | with_reducible refine Need.mk (by with_reducible exact Nat.le_of_eq (Nat.zero_add _)) ?_
      | (fail_if_success with_reducible refine LoopVC.mk ?_
         fail_if_success with_reducible refine Need.mk ?_ ?_
         fail_if_success with_reducible refine CallVC.mk ?_
         fail_if_success with_reducible refine LoopEnd.mk ?_
         fail_if_success with_reducible refine Out.mk ?_
         fail_if_success with_reducible show False
         fail_if_success with_reducible refine NeedI.mk ?_ ?_
         conv => whnf)
    refine Need.mk (CEq.list (mapR_len _ _).symm fun k hk j hj => ?_) ?_
    · rw [addN_eq, Nat.zero_add]; exact CEq.refl _
    repeat' first
      | with_reducible refine NeedI.mk (fun h => h) ?_
      | with_reducible refine NeedI.mk (fun h => h.2) ?_
      | with_reducible refine NeedI.mk (fun h => h.1) ?_
      | with_reducible exact Done.mk
      | with_reducible refine Both.mk (fun _ => ?_) (fun _ => ?_)
      | with_reducible refine Both2.mk (fun _ => ?_) ?_
      | with_reducible refine Need.mk (by with_reducible exact Nat.le_of_eq (Nat.zero_add _)) ?_
      | (fail_if_success with_reducible refine LoopVC.mk ?_
         fail_if_success with_reducible refine Need.mk ?_ ?_
         fail_if_success with_reducible refine CallVC.mk ?_
         fail_if_success with_reducible refine LoopEnd.mk ?_
         fail_if_success with_reducible refine Out.mk ?_
         fail_if_success with_reducible show False
         fail_if_success with_reducible refine NeedI.mk ?_ ?_
         conv => whnf)
    refine Need.mk ceq_nil ?_
    repeat' first
      | with_reducible refine NeedI.mk (fun h => h) ?_
      | with_reducible refine NeedI.mk (fun h => h.2) ?_
      | with_reducible refine NeedI.mk (fun h => h.1) ?_
      | with_reducible exact Done.mk
      | with_reducible refine Both.mk (fun _ => ?_) (fun _ => ?_)
      | with_reducible refine Both2.mk (fun _ => ?_) ?_
      | with_reducible refine Need.mk (by with_reducible exact Nat.le_of_eq (Nat.zero_add _)) ?_
      | (fail_if_success with_reducible refine LoopVC.mk ?_
         fail_if_success with_reducible refine Need.mk ?_ ?_
         fail_if_success with_reducible refine CallVC.mk ?_
         fail_if_success with_reducible refine LoopEnd.mk ?_
         fail_if_success with_reducible refine Out.mk ?_
         fail_if_success with_reducible show False
         fail_if_success with_reducible refine NeedI.mk ?_ ?_
         conv => whnf)

end
end Lk.S03
