/-
  Chapter 12: JournalHead.
-/
import Derived.Test.YtihjalnebgjmgaaW12y
namespace Lk.S12
open Go Lk Lk.C Lk.S03

/-- Sixteen bytes. -/
def E16 : Enc (List UInt8) where
  sh := List.replicate 16 (.int .u8)
  enc l j := .int .u8 (l.getD j default).toNat
  wf l := l.length = 16
  dec g h := by
    have key : ∀ j, j < 16 → ∃ b : UInt8, g j = .int .u8 b.toNat := fun j hj => by
      obtain ⟨n, hn, hr⟩ := (h j (.int .u8) (by rw [List.getElem?_replicate]; simp [hj])).intE
      simp only [rng] at hr
      exact ⟨UInt8.ofNat n.toNat, by rw [hn, UInt8.toNat_ofNat', show ((n.toNat % 2 ^ 8 : Nat) : Int) = n by omega]⟩
    let f : Nat → UInt8 := fun j => if hj : j < 16 then Classical.choose (key j hj) else 0
    have hf : ∀ j, j < 16 → g j = .int .u8 (f j).toNat := fun j hj => by
      simp only [f, dif_pos hj]; exact Classical.choose_spec (key j hj)
    refine ⟨(List.range 16).map f, by simp, fun j hj => ?_⟩
    have hj : j < 16 := by simpa using hj
    have e : ((List.range 16).map f).getD j default = f j := by
      rw [List.getD_eq_getElem?_getD, List.getElem?_map, List.getElem?_range hj]; rfl
    rw [hf j hj, e]; exact CEq.refl _

theorem bytes16 {h : List UInt8} (hl : h.length = 16) : (bytesOf 16 fun i => (fun r (_ : Nat) => E16.enc h r) (addN 0 i) 0) = h := by
  refine List.ext_getElem (by simp [bytesOf, hl]) fun i h1 h2 => ?_
  have hi : i < 16 := by omega
  simp only [bytesOf, List.getElem_map, List.getElem_range, addN_eq, Nat.zero_add]
  show UInt8.ofNat ((h.getD i default).toNat : Int).toNat = _
  rw [getD_eq h2]; simp

def nzB (h : List UInt8) : Nat → Bool
  | 0 => true
  | i + 1 => nzB h i && decide (((h.getD i default).toNat : Int) = 0)
def rtB (h : List UInt8) : Nat → Bool
  | 0 => decide (((h.getD 0 default).toNat : Int) = 74) && decide (1 ≤ ((h.getD 1 default).toNat : Int)) && decide (((h.getD 1 default).toNat : Int) ≤ 16)
  | i + 1 => rtB h i && (decide ((i : Int) < 2) || decide (((h.getD i default).toNat : Int) = 0))

theorem u8_0 {b : UInt8} (h : (b.toNat : Int) = 0) : b = 0 := UInt8.toNat_inj.1 (by show b.toNat = 0; omega)
theorem nzB_iff {h : List UInt8} : ∀ {n : Nat}, nzB h n = true ↔ ∀ i, i < n → h.getD i default = 0
  | 0 => ⟨fun _ i hi => by omega, fun _ => rfl⟩
  | n + 1 => by
    rw [nzB, Bool.and_eq_true, nzB_iff, decide_eq_true_eq]
    constructor
    · rintro ⟨a, b⟩ i hi
      rcases Nat.lt_or_ge i n with h | h
      · exact a i h
      · obtain rfl : i = n := by omega
        exact u8_0 b
    · intro a
      exact ⟨fun i hi => a i (by omega), by rw [a n (by omega)]; rfl⟩
theorem rtB_iff {h : List UInt8} : ∀ {n : Nat}, rtB h n = true ↔ ((h.getD 0 default).toNat = 74 ∧ 1 ≤ (h.getD 1 default).toNat ∧ (h.getD 1 default).toNat ≤ 16) ∧ ∀ i, 2 ≤ i → i < n → h.getD i default = 0
  | 0 => by
    rw [rtB, Bool.and_eq_true, Bool.and_eq_true, decide_eq_true_eq, decide_eq_true_eq, decide_eq_true_eq]
    exact ⟨fun x => ⟨⟨by omega, by omega, by omega⟩, fun i hi hj => by omega⟩, fun x => ⟨⟨by omega, by omega⟩, by omega⟩⟩
  | n + 1 => by
    rw [rtB, Bool.and_eq_true, rtB_iff, Bool.or_eq_true, decide_eq_true_eq, decide_eq_true_eq]
    constructor
    · rintro ⟨⟨a, b⟩, c⟩
      refine ⟨a, fun i hi hj => ?_⟩
      rcases Nat.lt_or_ge i n with h | h
      · exact b i hi h
      · obtain rfl : i = n := by omega
        rcases c with c | c
        · omega
        · exact u8_0 c
    · rintro ⟨a, b⟩
      refine ⟨⟨a, fun i hi hj => b i hi (by omega)⟩, ?_⟩
      rcases Nat.lt_or_ge n 2 with h | h
      · left; omega
      · right; rw [b n h (by omega)]; rfl

theorem ext16 {a b : List UInt8} (ha : a.length = 16) (hb : b.length = 16) (h : ∀ i, i < 16 → a.getD i default = b.getD i default) : a = b := eq_of_getD (by omega) fun i hi => h i (by omega)
theorem headL_at {n i : Nat} (hi : 2 ≤ i) (hj : i < 16) : (headL n).getD i default = 0 := by
  unfold headL
  obtain ⟨k, rfl⟩ : ∃ k, i = k + 2 := ⟨i - 2, by omega⟩
  rw [List.getD_cons_succ, List.getD_cons_succ, getD_eq (by simp; omega)]; exact List.getElem_replicate ..
theorem rt_head {h : List UInt8} (hl : h.length = 16) (hr : rtB h 16 = true) : h = headL (h.getD 1 default).toNat := by
  obtain ⟨⟨a, b, c⟩, d⟩ := rtB_iff.1 hr
  refine ext16 hl (headL_len _) fun i hi => ?_
  rcases Nat.lt_or_ge i 2 with h2 | h2
  · rcases (show i = 0 ∨ i = 1 by omega) with rfl | rfl
    · exact UInt8.toNat_inj.1 (by rw [a]; rfl)
    · show _ = UInt8.ofNat _; simp
  · rw [d i h2 hi, headL_at h2 hi]
theorem not_rt {h : List UInt8} (hr : rtB h 16 = false) : hdN h = 0 := by
  by_cases e : hdN h = 0
  · exact e
  · exfalso
    have h1 := hdN_spec e
    have h2 := hdN_le h
    have : rtB h 16 = true := rtB_iff.2 (by
      refine ⟨⟨?_, ?_, ?_⟩, fun i hi hj => ?_⟩
      · rw [h1]; rfl
      · rw [h1]; show 1 ≤ (UInt8.ofNat (hdN h)).toNat; rw [UInt8.toNat_ofNat']; omega
      · rw [h1]; show (UInt8.ofNat (hdN h)).toNat ≤ 16; rw [UInt8.toNat_ofNat']; omega
      · rw [h1]; exact headL_at hi hj)
    rw [hr] at this; cases this
theorem nz_zs {h : List UInt8} (hl : h.length = 16) (hn : nzB h 16 = true) : h = zs := by
  refine ext16 hl rfl fun i hi => ?_
  rw [nzB_iff.1 hn i hi]
  unfold zs; rw [getD_eq (by simp; omega)]; exact (List.getElem_replicate ..).symm
theorem not_nz {h : List UInt8} (hn : nzB h 16 = false) : h ≠ zs := by
  rintro rfl
  exact absurd hn (by decide)

/-- A calm disk with another head. -/
def headD (d : Dsk) (h : List UInt8) : Dsk := ⟨h :: d.secs.drop 1, []⟩
theorem headD_calm {d : Dsk} {h : List UInt8} (C : Calm d) (hl : h.length = 16) : Calm (headD d h) := by
  have hn := C.n
  refine ⟨⟨by show 1 ≤ (h :: d.secs.drop 1).length; simp, by show (h :: d.secs.drop 1).length ≤ 64; simp; omega, by show 0 ≤ 200; decide, fun s hs => ?_, fun w hw => by cases hw⟩, by show (h :: d.secs.drop 1).length = 35; simp; omega, rfl⟩
  rcases List.mem_cons.1 hs with rfl | hs
  · exact hl
  · exact C.r.2.2.2.1 s (List.mem_of_mem_drop hs)
theorem headD_read {d : Dsk} {h : List UInt8} {i : Nat} (C : Calm d) : (headD d h).read i = if i = 0 then h else d.read i := by
  rw [read_calm rfl, read_calm C.c]
  unfold headD
  cases i with
  | zero => rfl
  | succ i => rw [if_neg (by omega)]; show (h :: d.secs.drop 1).getD (i + 1) [] = _; rw [List.getD_cons_succ, List.getD_eq_getElem?_getD, List.getD_eq_getElem?_getD, List.getElem?_drop, Nat.add_comm]
/-- A head that names no page is cleared. -/
theorem recover_bad {d : Dsk} {h : List UInt8} (C : Calm d) (Z : d.read 0 = zs) (hl : h.length = 16) (h1 : h ≠ zs) (h2 : hdN h = 0) : repair (headD d h) = topL zs ∧ recover (headD d h) = d := by
  have D := headD_calm C hl
  have e0 : (headD d h).read 0 = h := by rw [headD_read C, if_pos rfl]
  have hr : repair (headD d h) = topL zs := by unfold repair; rw [if_pos D.usable, e0, if_neg h1, h2, if_neg (by simp)]; rfl
  refine ⟨hr, ?_⟩
  unfold recover
  rw [hr]
  have ho : okO 35 (topL zs) := by
    intro o ho
    simp only [topL, List.mem_cons, List.not_mem_nil, or_false] at ho
    rcases ho with rfl | rfl <;> intro h
    · exact ⟨by show (0 : Int) ≤ 0; omega, by show (0 : Int) < 35; omega, rfl⟩
    · simp at h
  obtain ⟨a, b, c⟩ := runL_all D.r (by rw [D.n]; exact ho) (by rw [D.c]; show 0 + 2 ≤ 200; decide)
  have hc : (runL (headD d h) (topL zs)).cache = [] := by
    have e : topL zs = [⟨false, ⟨0, zs⟩⟩] ++ [⟨true, ⟨0, []⟩⟩] := rfl
    rw [e]
    exact runL_calm (runL_right D.r) rfl
  refine Calm.ext ⟨a, b.trans D.n, hc⟩ C fun i hi => ?_
  rw [c i (by rw [D.n]; exact hi)]
  show rdO [⟨false, ⟨0, zs⟩⟩, ⟨true, ⟨0, []⟩⟩] i _ = _
  simp only [rdO_if0, rdO_sync, rdO_nil]
  rw [headD_read C]
  by_cases e : i = 0
  · subst e; rw [if_pos rfl, Z]
  · rw [if_neg (fun x => e x.symm), if_neg e]

section
variable {P : Program} {F : Nat → Nat}

set_option maxHeartbeats 8000000 in
set_option maxRecDepth 100000 in
theorem journalHead_law (K : K12 P F) (R : KRef P F) (hcalm : law12_calm_k P F) (hk : law12_JournalHead_k P F) (pages : List (List UInt8)) (h : List UInt8) (hp : pages.length ≤ 9223372036854775807) (hl : h.length = 16) :
    FnOk P (F 113) [.one (slL 1 strE pages), .many 16 (E16.enc h)] [.one (.im (.bool true))] := by
  refine fnOk K.j.k.m hk ?_
  repeat' first
    | with_reducible refine NeedI.mk (fun h => h) ?_
    | with_reducible refine NeedI.mk (fun h => h.2) ?_
    | with_reducible refine NeedI.mk (fun h => h.1) ?_
    | with_reducible exact Done.mk
    | with_reducible refine Both.mk (fun _ => ?_) (fun _ => ?_)
    | with_reducible refine Both2.mk (fun _ => ?_) ?_
    | with_reducible refine Need.mk (by first | omega | with_reducible exact CEq.refl _ | (dsimp only; omega) | (dsimp only [rng]; omega) | (simp only [decide_eq_true_eq, decide_eq_false_iff_not, Bool.or_eq_true, Bool.and_eq_true, Bool.or_eq_false_iff, Int.toNat_natCast, addN_eq, cond_false, cond_true, rng] at *; omega) | exact ⟨rfl, rfl⟩) ?_
    | ((with_reducible refine Need.mk ?_ ?_); exact CEq.refl _)
    | (fail_if_success with_reducible refine LoopVC.mk ?_
       fail_if_success with_reducible refine Need.mk ?_ ?_
       fail_if_success with_reducible refine CallVC.mk ?_
       fail_if_success with_reducible refine LoopEnd.mk ?_
       fail_if_success with_reducible refine Out.mk ?_
       fail_if_success with_reducible show False
       fail_if_success with_reducible refine NeedI.mk ?_ ?_
       conv => whnf)
  refine CallVC.mk' (fun _ => calm_ok K.j.k hcalm pages hp) (fun _ => .cons (.one (CEq.refl _)) .nil) ?_
  have C := calmD_calm (pages := pages)
  have Z := calmD_0 (pages := pages)
  generalize calmD pages = was at *
  have hwn := C.n
  repeat' first
    | with_reducible refine NeedI.mk (fun h => h) ?_
    | with_reducible refine NeedI.mk (fun h => h.2) ?_
    | with_reducible refine NeedI.mk (fun h => h.1) ?_
    | with_reducible exact Done.mk
    | with_reducible refine Both.mk (fun _ => ?_) (fun _ => ?_)
    | with_reducible refine Both2.mk (fun _ => ?_) ?_
    | with_reducible refine Need.mk (by first | omega | with_reducible exact CEq.refl _ | (dsimp only; omega) | (dsimp only [rng]; omega) | (simp only [decide_eq_true_eq, decide_eq_false_iff_not, Bool.or_eq_true, Bool.and_eq_true, Bool.or_eq_false_iff, Int.toNat_natCast, addN_eq, cond_false, cond_true, rng] at *; omega) | exact ⟨rfl, rfl⟩) ?_
    | ((with_reducible refine Need.mk ?_ ?_); exact CEq.refl _)
    | (fail_if_success with_reducible refine LoopVC.mk ?_
       fail_if_success with_reducible refine Need.mk ?_ ?_
       fail_if_success with_reducible refine CallVC.mk ?_
       fail_if_success with_reducible refine LoopEnd.mk ?_
       fail_if_success with_reducible refine Out.mk ?_
       fail_if_success with_reducible show False
       fail_if_success with_reducible refine NeedI.mk ?_ ?_
       conv => whnf)
  · rename_i h; exfalso; rw [hwn] at h; simp at h
  · skip
    refine LoopVC.inv (fun i : Nat => i ≤ 16) (fun i => stL [(3, .ra 3 0 1 0 0), (5, .va 5 0 0), (6, .c (.bool (nzB h i))), (7, .c (.bool (rtB h i))), (32, .agg 16 fun j => .c (E16.enc h j)), (33, .c (.int .i64 i))]
      [(3, ⟨1, 16, .dat fun r _ => E16.enc h r, false, true⟩), (5, vE [.c (slL 1 strE was.secs), .c (slL 2 wrE was.cache)])]) (fun i => 16 - i) 0 (Nat.zero_le _) ?_ ?_
    · (refine Le.of ?_ ?_ <;> repeat' first | exact trivial | exact CEq.refl _ | exact rfl | exact cI (by push_cast; first | rfl | omega) | exact SubE.dat fun _ _ _ _ => CEq.refl _ | refine SubE.var2 ?_ ?_ | refine SubE.var1 ?_ | refine SubE.var3 ?_ ?_ ?_ | refine SubE.var4 ?_ ?_ ?_ ?_ | refine SubE.var5 ?_ ?_ ?_ ?_ ?_ | refine Exists.intro _ (And.intro rfl ?_) | refine And.intro ?_ ?_)
      · exact fun j hj => CEq.refl _
      · exact ⟨rfl, rfl, id, id, fun i hi j hj => CEq.refl _⟩
    rintro Q hQ i hi
    repeat' first
      | with_reducible refine NeedI.mk (fun h => h) ?_
      | with_reducible refine NeedI.mk (fun h => h.2) ?_
      | with_reducible refine NeedI.mk (fun h => h.1) ?_
      | with_reducible exact Done.mk
      | with_reducible refine Both.mk (fun _ => ?_) (fun _ => ?_)
      | with_reducible refine Both2.mk (fun _ => ?_) ?_
      | with_reducible refine Need.mk (by first | omega | with_reducible exact CEq.refl _ | (dsimp only; omega) | (dsimp only [rng]; omega) | (simp only [decide_eq_true_eq, decide_eq_false_iff_not, Bool.or_eq_true, Bool.and_eq_true, Bool.or_eq_false_iff, Int.toNat_natCast, addN_eq, cond_false, cond_true, rng] at *; omega) | exact ⟨rfl, rfl⟩) ?_
      | ((with_reducible refine Need.mk ?_ ?_); exact CEq.refl _)
      | (fail_if_success with_reducible refine LoopVC.mk ?_
         fail_if_success with_reducible refine Need.mk ?_ ?_
         fail_if_success with_reducible refine CallVC.mk ?_
         fail_if_success with_reducible refine LoopEnd.mk ?_
         fail_if_success with_reducible refine Out.mk ?_
         fail_if_success with_reducible show False
         fail_if_success with_reducible refine NeedI.mk ?_ ?_
         conv => whnf)
    · rename_i h3
      have h3 : (i : Int) < 16 := of_decide_eq_true h3
      refine LoopEnd.mk ⟨i + 1, by omega, by omega, ?_⟩
      (refine Le.of ?_ ?_ <;> repeat' first | exact trivial | exact CEq.refl _ | exact rfl | exact cI (by push_cast; first | rfl | omega) | exact SubE.dat fun _ _ _ _ => CEq.refl _ | refine SubE.var2 ?_ ?_ | refine SubE.var1 ?_ | refine SubE.var3 ?_ ?_ ?_ | refine SubE.var4 ?_ ?_ ?_ ?_ | refine SubE.var5 ?_ ?_ ?_ ?_ ?_ | refine Exists.intro _ (And.intro rfl ?_) | refine And.intro ?_ ?_)
      exact fun j hj => CEq.refl _
    · rename_i h3
      have h3 : ¬ (i : Int) < 16 := of_decide_eq_false h3
      obtain rfl : i = 16 := by omega
      refine Out.mk (hQ _ _ ?_)
      repeat' first
        | with_reducible refine NeedI.mk (fun h => h) ?_
        | with_reducible refine NeedI.mk (fun h => h.2) ?_
        | with_reducible refine NeedI.mk (fun h => h.1) ?_
        | with_reducible exact Done.mk
        | with_reducible refine Both.mk (fun _ => ?_) (fun _ => ?_)
        | with_reducible refine Both2.mk (fun _ => ?_) ?_
        | with_reducible refine Need.mk (by first | omega | with_reducible exact CEq.refl _ | (dsimp only; omega) | (dsimp only [rng]; omega) | (simp only [decide_eq_true_eq, decide_eq_false_iff_not, Bool.or_eq_true, Bool.and_eq_true, Bool.or_eq_false_iff, Int.toNat_natCast, addN_eq, cond_false, cond_true, rng] at *; omega) | exact ⟨rfl, rfl⟩) ?_
        | ((with_reducible refine Need.mk ?_ ?_); exact CEq.refl _)
        | (fail_if_success with_reducible refine LoopVC.mk ?_
           fail_if_success with_reducible refine Need.mk ?_ ?_
           fail_if_success with_reducible refine CallVC.mk ?_
           fail_if_success with_reducible refine LoopEnd.mk ?_
           fail_if_success with_reducible refine Out.mk ?_
           fail_if_success with_reducible show False
           fail_if_success with_reducible refine NeedI.mk ?_ ?_
           conv => whnf)
      refine Need.mk rfl ?_
      repeat' first
        | with_reducible refine NeedI.mk (fun h => h) ?_
        | with_reducible refine NeedI.mk (fun h => h.2) ?_
        | with_reducible refine NeedI.mk (fun h => h.1) ?_
        | with_reducible exact Done.mk
        | with_reducible refine Both.mk (fun _ => ?_) (fun _ => ?_)
        | with_reducible refine Both2.mk (fun _ => ?_) ?_
        | with_reducible refine Need.mk (by first | omega | with_reducible exact CEq.refl _ | (dsimp only; omega) | (dsimp only [rng]; omega) | (simp only [decide_eq_true_eq, decide_eq_false_iff_not, Bool.or_eq_true, Bool.and_eq_true, Bool.or_eq_false_iff, Int.toNat_natCast, addN_eq, cond_false, cond_true, rng] at *; omega) | exact ⟨rfl, rfl⟩) ?_
        | ((with_reducible refine Need.mk ?_ ?_); exact CEq.refl _)
        | (fail_if_success with_reducible refine LoopVC.mk ?_
           fail_if_success with_reducible refine Need.mk ?_ ?_
           fail_if_success with_reducible refine CallVC.mk ?_
           fail_if_success with_reducible refine LoopEnd.mk ?_
           fail_if_success with_reducible refine Out.mk ?_
           fail_if_success with_reducible show False
           fail_if_success with_reducible refine NeedI.mk ?_ ?_
           conv => whnf)
      refine Need.mk (fun k hk => trivial) ?_
      have hb : (bytesOf 16 fun i => (fun r (_ : Nat) => E16.enc h r) (addN 0 i) 0) = h := bytes16 hl
      rw [hb]
      repeat' first
        | with_reducible refine NeedI.mk (fun h => h) ?_
        | with_reducible refine NeedI.mk (fun h => h.2) ?_
        | with_reducible refine NeedI.mk (fun h => h.1) ?_
        | with_reducible exact Done.mk
        | with_reducible refine Both.mk (fun _ => ?_) (fun _ => ?_)
        | with_reducible refine Both2.mk (fun _ => ?_) ?_
        | with_reducible refine Need.mk (by first | omega | with_reducible exact CEq.refl _ | (dsimp only; omega) | (dsimp only [rng]; omega) | (simp only [decide_eq_true_eq, decide_eq_false_iff_not, Bool.or_eq_true, Bool.and_eq_true, Bool.or_eq_false_iff, Int.toNat_natCast, addN_eq, cond_false, cond_true, rng] at *; omega) | exact ⟨rfl, rfl⟩) ?_
        | ((with_reducible refine Need.mk ?_ ?_); exact CEq.refl _)
        | (fail_if_success with_reducible refine LoopVC.mk ?_
           fail_if_success with_reducible refine Need.mk ?_ ?_
           fail_if_success with_reducible refine CallVC.mk ?_
           fail_if_success with_reducible refine LoopEnd.mk ?_
           fail_if_success with_reducible refine Out.mk ?_
           fail_if_success with_reducible show False
           fail_if_success with_reducible refine NeedI.mk ?_ ?_
           conv => whnf)
      have D := headD_calm C hl
      refine CallVC.mk' (fun _ => repair_ok K.j (headD was h) D.small) (fun _ => .cons (.many fun j hj => ?_) .nil) ?_
      · rcases (show j = 0 ∨ j = 1 by omega) with rfl | rfl
        · exact ((IsL.one (enc := strE) (x := h) fun j hj => by (obtain rfl : j = 0 := (by omega)); exact CEq.refl _).app rfl (IsL.refl.drop (k := 1))).off.ceq (by simp; omega)
        · exact ceq_nil
      repeat' first
        | with_reducible refine NeedI.mk (fun h => h) ?_
        | with_reducible refine NeedI.mk (fun h => h.2) ?_
        | with_reducible refine NeedI.mk (fun h => h.1) ?_
        | with_reducible exact Done.mk
        | with_reducible refine Both.mk (fun _ => ?_) (fun _ => ?_)
        | with_reducible refine Both2.mk (fun _ => ?_) ?_
        | with_reducible refine Need.mk (by first | omega | with_reducible exact CEq.refl _ | (dsimp only; omega) | (dsimp only [rng]; omega) | (simp only [decide_eq_true_eq, decide_eq_false_iff_not, Bool.or_eq_true, Bool.and_eq_true, Bool.or_eq_false_iff, Int.toNat_natCast, addN_eq, cond_false, cond_true, rng] at *; omega) | exact ⟨rfl, rfl⟩) ?_
        | ((with_reducible refine Need.mk ?_ ?_); exact CEq.refl _)
        | (fail_if_success with_reducible refine LoopVC.mk ?_
           fail_if_success with_reducible refine Need.mk ?_ ?_
           fail_if_success with_reducible refine CallVC.mk ?_
           fail_if_success with_reducible refine LoopEnd.mk ?_
           fail_if_success with_reducible refine Out.mk ?_
           fail_if_success with_reducible show False
           fail_if_success with_reducible refine NeedI.mk ?_ ?_
           conv => whnf)
      refine CallVC.mk' (fun _ => recover_ok K.j (headD was h) D.small) (fun _ => .cons (.many fun j hj => ?_) .nil) ?_
      · rcases (show j = 0 ∨ j = 1 by omega) with rfl | rfl
        · exact ((IsL.one (enc := strE) (x := h) fun j hj => by (obtain rfl : j = 0 := (by omega)); exact CEq.refl _).app rfl (IsL.refl.drop (k := 1))).off.ceq (by simp; omega)
        · exact ceq_nil
      have e0 : (headD was h).read 0 = h := by rw [headD_read C, if_pos rfl]
      repeat' first
        | with_reducible refine NeedI.mk (fun h => h) ?_
        | with_reducible refine NeedI.mk (fun h => h.2) ?_
        | with_reducible refine NeedI.mk (fun h => h.1) ?_
        | with_reducible exact Done.mk
        | with_reducible refine Both.mk (fun _ => ?_) (fun _ => ?_)
        | with_reducible refine Both2.mk (fun _ => ?_) ?_
        | with_reducible refine Need.mk (by first | omega | with_reducible exact CEq.refl _ | (dsimp only; omega) | (dsimp only [rng]; omega) | (simp only [decide_eq_true_eq, decide_eq_false_iff_not, Bool.or_eq_true, Bool.and_eq_true, Bool.or_eq_false_iff, Int.toNat_natCast, addN_eq, cond_false, cond_true, rng] at *; omega) | exact ⟨rfl, rfl⟩) ?_
        | ((with_reducible refine Need.mk ?_ ?_); exact CEq.refl _)
        | (fail_if_success with_reducible refine LoopVC.mk ?_
           fail_if_success with_reducible refine Need.mk ?_ ?_
           fail_if_success with_reducible refine CallVC.mk ?_
           fail_if_success with_reducible refine LoopEnd.mk ?_
           fail_if_success with_reducible refine Out.mk ?_
           fail_if_success with_reducible show False
           fail_if_success with_reducible refine NeedI.mk ?_ ?_
           conv => whnf)
      · rename_i h5
        obtain rfl := nz_zs hl h5
        rw [repair_zs e0]
        refine CallVC.mk' (fun _ => awake_ok K) (fun _ => .nil) ?_
        repeat' first
          | with_reducible refine NeedI.mk (fun h => h) ?_
          | with_reducible refine NeedI.mk (fun h => h.2) ?_
          | with_reducible refine NeedI.mk (fun h => h.1) ?_
          | with_reducible exact Done.mk
          | with_reducible refine Both.mk (fun _ => ?_) (fun _ => ?_)
          | with_reducible refine Both2.mk (fun _ => ?_) ?_
          | with_reducible refine Need.mk (by first | omega | with_reducible exact CEq.refl _ | (dsimp only; omega) | (dsimp only [rng]; omega) | (simp only [decide_eq_true_eq, decide_eq_false_iff_not, Bool.or_eq_true, Bool.and_eq_true, Bool.or_eq_false_iff, Int.toNat_natCast, addN_eq, cond_false, cond_true, rng] at *; omega) | exact ⟨rfl, rfl⟩) ?_
          | ((with_reducible refine Need.mk ?_ ?_); exact CEq.refl _)
          | (fail_if_success with_reducible refine LoopVC.mk ?_
             fail_if_success with_reducible refine Need.mk ?_ ?_
             fail_if_success with_reducible refine CallVC.mk ?_
             fail_if_success with_reducible refine LoopEnd.mk ?_
             fail_if_success with_reducible refine Out.mk ?_
             fail_if_success with_reducible show False
             fail_if_success with_reducible refine NeedI.mk ?_ ?_
             conv => whnf)
      · rename_i h4 h5
        have h6 := rt_head hl h5
        have h7 := (rtB_iff.1 h5).1
        have e1 : (headD was h).read 0 = headL (h.getD 1 default).toNat := e0.trans h6
        have hr := repair_head D.usable h7.2.1 h7.2.2 e1
        obtain ⟨c2, r2⟩ := recover_head D h7.2.1 h7.2.2 e1
        have hrl : (repair (headD was h)).length = 5 := by rw [hr]; rfl
        have h0 : (recover (headD was h)).secs.getD (Int.toNat 0) default = was.secs.getD (Int.toNat 0) default := by
          have x := r2 0 (by omega)
          rw [if_pos rfl, read_calm c2.c] at x
          rw [read_calm C.c] at Z
          exact x.trans Z.symm
        refine CallVC.mk' (fun _ => awake_ok K) (fun _ => .nil) ?_
        repeat' first
          | with_reducible refine NeedI.mk (fun h => h) ?_
          | with_reducible refine NeedI.mk (fun h => h.2) ?_
          | with_reducible refine NeedI.mk (fun h => h.1) ?_
          | with_reducible exact Done.mk
          | with_reducible refine Both.mk (fun _ => ?_) (fun _ => ?_)
          | with_reducible refine Both2.mk (fun _ => ?_) ?_
          | with_reducible refine Need.mk (by first | omega | with_reducible exact CEq.refl _ | (dsimp only; omega) | (dsimp only [rng]; omega) | (simp only [decide_eq_true_eq, decide_eq_false_iff_not, Bool.or_eq_true, Bool.and_eq_true, Bool.or_eq_false_iff, Int.toNat_natCast, addN_eq, cond_false, cond_true, rng] at *; omega) | exact ⟨rfl, rfl⟩) ?_
          | ((with_reducible refine Need.mk ?_ ?_); exact CEq.refl _)
          | (fail_if_success with_reducible refine LoopVC.mk ?_
             fail_if_success with_reducible refine Need.mk ?_ ?_
             fail_if_success with_reducible refine CallVC.mk ?_
             fail_if_success with_reducible refine LoopEnd.mk ?_
             fail_if_success with_reducible refine Out.mk ?_
             fail_if_success with_reducible show False
             fail_if_success with_reducible refine NeedI.mk ?_ ?_
             conv => whnf)
        refine Need.mk (eB (by rw [hrl, c2.n, h0]; simp)) ?_
        repeat' first
          | with_reducible refine NeedI.mk (fun h => h) ?_
          | with_reducible refine NeedI.mk (fun h => h.2) ?_
          | with_reducible refine NeedI.mk (fun h => h.1) ?_
          | with_reducible exact Done.mk
          | with_reducible refine Both.mk (fun _ => ?_) (fun _ => ?_)
          | with_reducible refine Both2.mk (fun _ => ?_) ?_
          | with_reducible refine Need.mk (by first | omega | with_reducible exact CEq.refl _ | (dsimp only; omega) | (dsimp only [rng]; omega) | (simp only [decide_eq_true_eq, decide_eq_false_iff_not, Bool.or_eq_true, Bool.and_eq_true, Bool.or_eq_false_iff, Int.toNat_natCast, addN_eq, cond_false, cond_true, rng] at *; omega) | exact ⟨rfl, rfl⟩) ?_
          | ((with_reducible refine Need.mk ?_ ?_); exact CEq.refl _)
          | (fail_if_success with_reducible refine LoopVC.mk ?_
             fail_if_success with_reducible refine Need.mk ?_ ?_
             fail_if_success with_reducible refine CallVC.mk ?_
             fail_if_success with_reducible refine LoopEnd.mk ?_
             fail_if_success with_reducible refine Out.mk ?_
             fail_if_success with_reducible show False
             fail_if_success with_reducible refine NeedI.mk ?_ ?_
             conv => whnf)
      · rename_i h4 h5
        obtain ⟨hr, hc⟩ := recover_bad C Z hl (not_nz h4) (not_rt h5)
        rw [hr, hc]
        refine CallVC.mk' (fun _ => same_ok R was was C.small C.small) (fun _ => .cons ((.many fun j hj => by (rcases (show j = 0 ∨ j = 1 by omega) with rfl | rfl <;> exact CEq.refl _))) (.cons ((.many fun j hj => by (rcases (show j = 0 ∨ j = 1 by omega) with rfl | rfl <;> exact CEq.refl _))) .nil)) ?_
        repeat' first
          | with_reducible refine NeedI.mk (fun h => h) ?_
          | with_reducible refine NeedI.mk (fun h => h.2) ?_
          | with_reducible refine NeedI.mk (fun h => h.1) ?_
          | with_reducible exact Done.mk
          | with_reducible refine Both.mk (fun _ => ?_) (fun _ => ?_)
          | with_reducible refine Both2.mk (fun _ => ?_) ?_
          | with_reducible refine Need.mk (by first | omega | with_reducible exact CEq.refl _ | (dsimp only; omega) | (dsimp only [rng]; omega) | (simp only [decide_eq_true_eq, decide_eq_false_iff_not, Bool.or_eq_true, Bool.and_eq_true, Bool.or_eq_false_iff, Int.toNat_natCast, addN_eq, cond_false, cond_true, rng] at *; omega) | exact ⟨rfl, rfl⟩) ?_
          | ((with_reducible refine Need.mk ?_ ?_); exact CEq.refl _)
          | (fail_if_success with_reducible refine LoopVC.mk ?_
             fail_if_success with_reducible refine Need.mk ?_ ?_
             fail_if_success with_reducible refine CallVC.mk ?_
             fail_if_success with_reducible refine LoopEnd.mk ?_
             fail_if_success with_reducible refine Out.mk ?_
             fail_if_success with_reducible show False
             fail_if_success with_reducible refine NeedI.mk ?_ ?_
             conv => whnf)
        refine CallVC.mk' (fun _ => awake_ok K) (fun _ => .nil) ?_
        repeat' first
          | with_reducible refine NeedI.mk (fun h => h) ?_
          | with_reducible refine NeedI.mk (fun h => h.2) ?_
          | with_reducible refine NeedI.mk (fun h => h.1) ?_
          | with_reducible exact Done.mk
          | with_reducible refine Both.mk (fun _ => ?_) (fun _ => ?_)
          | with_reducible refine Both2.mk (fun _ => ?_) ?_
          | with_reducible refine Need.mk (by first | omega | with_reducible exact CEq.refl _ | (dsimp only; omega) | (dsimp only [rng]; omega) | (simp only [decide_eq_true_eq, decide_eq_false_iff_not, Bool.or_eq_true, Bool.and_eq_true, Bool.or_eq_false_iff, Int.toNat_natCast, addN_eq, cond_false, cond_true, rng] at *; omega) | exact ⟨rfl, rfl⟩) ?_
          | ((with_reducible refine Need.mk ?_ ?_); exact CEq.refl _)
          | (fail_if_success with_reducible refine LoopVC.mk ?_
             fail_if_success with_reducible refine Need.mk ?_ ?_
             fail_if_success with_reducible refine CallVC.mk ?_
             fail_if_success with_reducible refine LoopEnd.mk ?_
             fail_if_success with_reducible refine Out.mk ?_
             fail_if_success with_reducible show False
             fail_if_success with_reducible refine NeedI.mk ?_ ?_
             conv => whnf)
        refine Need.mk (eB (by simp [topL])) ?_
        repeat' first
          | with_reducible refine NeedI.mk (fun h => h) ?_
          | with_reducible refine NeedI.mk (fun h => h.2) ?_
          | with_reducible refine NeedI.mk (fun h => h.1) ?_
          | with_reducible exact Done.mk
          | with_reducible refine Both.mk (fun _ => ?_) (fun _ => ?_)
          | with_reducible refine Both2.mk (fun _ => ?_) ?_
          | with_reducible refine Need.mk (by first | omega | with_reducible exact CEq.refl _ | (dsimp only; omega) | (dsimp only [rng]; omega) | (simp only [decide_eq_true_eq, decide_eq_false_iff_not, Bool.or_eq_true, Bool.and_eq_true, Bool.or_eq_false_iff, Int.toNat_natCast, addN_eq, cond_false, cond_true, rng] at *; omega) | exact ⟨rfl, rfl⟩) ?_
          | ((with_reducible refine Need.mk ?_ ?_); exact CEq.refl _)
          | (fail_if_success with_reducible refine LoopVC.mk ?_
             fail_if_success with_reducible refine Need.mk ?_ ?_
             fail_if_success with_reducible refine CallVC.mk ?_
             fail_if_success with_reducible refine LoopEnd.mk ?_
             fail_if_success with_reducible refine Out.mk ?_
             fail_if_success with_reducible show False
             fail_if_success with_reducible refine NeedI.mk ?_ ?_
             conv => whnf)
end
end Lk.S12
