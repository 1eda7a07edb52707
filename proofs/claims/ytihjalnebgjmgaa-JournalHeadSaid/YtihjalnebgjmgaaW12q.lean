/-
  Chapter 12: a plan cut off anywhere, with no program in sight.
-/
import Derived.Test.YtihjalnebgjmgaaW12p
namespace Lk.S12
open Go Lk Lk.S03

theorem plan_eq {n : Nat} {data : List UInt8} : plan n data = [⟨false, ⟨1, data.take 16⟩⟩, ⟨false, ⟨2, data.drop 16⟩⟩, ⟨true, ⟨0, []⟩⟩, ⟨false, ⟨0, headL n⟩⟩, ⟨true, ⟨0, []⟩⟩,
    ⟨false, ⟨(2 * n + 1 : Nat), data.take 16⟩⟩, ⟨false, ⟨(2 * n + 2 : Nat), data.drop 16⟩⟩, ⟨true, ⟨0, []⟩⟩, ⟨false, ⟨0, zs⟩⟩, ⟨true, ⟨0, []⟩⟩] := by
  unfold plan halves topL home
  simp only [List.cons_append, List.nil_append, Int.toNat_natCast]
  have e1 : (2 * (n : Int) + 1) = ((2 * n + 1 : Nat) : Int) := by push_cast; rfl
  have e2 : (2 * (n : Int) + 1 + 1) = ((2 * n + 2 : Nat) : Int) := by push_cast; omega
  rw [e2, e1]; rfl

theorem plan_len {p : Int} {data : List UInt8} : (plan p data).length = 10 := rfl
theorem plan_ok0 {n : Nat} {data : List UInt8} (h1 : 1 ≤ n) (h2 : n ≤ 16) (hd : data.length = 32) : okO 35 (plan n data) := by
  rw [plan_eq]
  have hz : zs.length = 16 := rfl
  have hh := headL_len n
  have ht : (data.take 16).length = 16 := by rw [List.length_take]; omega
  have hr : (data.drop 16).length = 16 := by rw [List.length_drop]; omega
  intro o ho
  simp only [List.mem_cons, List.not_mem_nil, or_false] at ho
  rcases ho with rfl | rfl | rfl | rfl | rfl | rfl | rfl | rfl | rfl | rfl <;> intro h <;> first | (simp at h; done) | (refine ⟨?_, ?_, ?_⟩ <;> dsimp only <;> first | assumption | omega)

theorem rdO_none {l : List Op} {i : Nat} {s : List UInt8} (h : ∀ o ∈ l, o.sync = false → o.w.at_ ≠ (i : Int)) : rdO l i s = s := by
  induction l generalizing s with
  | nil => rfl
  | cons o l ih =>
    show rdO l i (if _ then _ else _) = s
    rw [if_neg (fun y => h o (List.mem_cons_self ..) y.1 y.2)]
    exact ih fun x hx => h x (List.mem_cons_of_mem _ hx)
theorem plan_at {n : Nat} {data : List UInt8} : ∀ o ∈ plan n data, o.w.at_ = 0 ∨ o.w.at_ = 1 ∨ o.w.at_ = 2 ∨ o.w.at_ = (2 * n + 1 : Nat) ∨ o.w.at_ = (2 * n + 2 : Nat) := by
  rw [plan_eq]
  intro o ho
  simp only [List.mem_cons, List.not_mem_nil, or_false] at ho
  rcases ho with rfl | rfl | rfl | rfl | rfl | rfl | rfl | rfl | rfl | rfl <;> simp

/-- The sectors of the pages. -/
def At (r : Nat → List UInt8) (q : Nat) (x y : List UInt8) : Prop := r (2 * q + 1) = x ∧ r (2 * q + 2) = y
/-- What holds behind a crash: r0 was read, page n is to be a and b. -/
structure Inv (r0 r : Nat → List UInt8) (n : Nat) (a b : List UInt8) : Prop where
  oth : ∀ q, 1 ≤ q → q ≤ 16 → q ≠ n → At r q (r0 (2 * q + 1)) (r0 (2 * q + 2))
  st : (r 0 = zs ∧ (At r n (r0 (2 * n + 1)) (r0 (2 * n + 2)) ∨ At r n a b)) ∨ (r 0 = headL n ∧ r 1 = a ∧ r 2 = b)

theorem rdO_nil {i : Nat} {s : List UInt8} : rdO [] i s = s := rfl
theorem rdO_sync {w : Wr} {l : List Op} {i : Nat} {s : List UInt8} : rdO (⟨true, w⟩ :: l) i s = rdO l i s := by
  show rdO l i (if _ then _ else _) = _; rw [if_neg (by simp)]
theorem rdO_hit {k : Nat} {x : List UInt8} {l : List Op} {s : List UInt8} : rdO (⟨false, ⟨k, x⟩⟩ :: l) k s = rdO l k x := by
  show rdO l k (if _ then _ else _) = _; rw [if_pos ⟨rfl, rfl⟩]
theorem rdO_miss {k i : Nat} {x : List UInt8} {l : List Op} {s : List UInt8} (h : k ≠ i) : rdO (⟨false, ⟨k, x⟩⟩ :: l) i s = rdO l i s := by
  show rdO l i (if _ then _ else _) = _; rw [if_neg (fun y => h (by have : (k : Int) = i := y.2; omega))]
theorem rdO_if {k i : Nat} {x : List UInt8} {l : List Op} {s : List UInt8} : rdO (⟨false, ⟨k, x⟩⟩ :: l) i s = if k = i then rdO l i x else rdO l i s := by
  split
  · rename_i h; subst h; exact rdO_hit
  · rename_i h; exact rdO_miss h
theorem rdO_if0 {i : Nat} {x : List UInt8} {l : List Op} {s : List UInt8} : rdO (⟨false, ⟨0, x⟩⟩ :: l) i s = if 0 = i then rdO l i x else rdO l i s := rdO_if (k := 0)
theorem rdO_if1 {i : Nat} {x : List UInt8} {l : List Op} {s : List UInt8} : rdO (⟨false, ⟨1, x⟩⟩ :: l) i s = if 1 = i then rdO l i x else rdO l i s := rdO_if (k := 1)
theorem rdO_if2 {i : Nat} {x : List UInt8} {l : List Op} {s : List UInt8} : rdO (⟨false, ⟨2, x⟩⟩ :: l) i s = if 2 = i then rdO l i x else rdO l i s := rdO_if (k := 2)

/-- All of a plan. -/
theorem plan_read {n i : Nat} {data s : List UInt8} (h1 : 1 ≤ n) : rdO (plan n data) i s =
    if i = 0 then zs else if i = 1 then data.take 16 else if i = 2 then data.drop 16 else if i = 2 * n + 1 then data.take 16 else if i = 2 * n + 2 then data.drop 16 else s := by
  rw [plan_eq]
  simp only [rdO_if, rdO_if0, rdO_if1, rdO_if2, rdO_sync, rdO_nil]
  repeat' split
  all_goals first | rfl | omega

theorem plan_calm {d : Dsk} {n : Nat} {data : List UInt8} (h : Calm d) (h1 : 1 ≤ n) (h2 : n ≤ 16) (hd : data.length = 32) : Calm (runL d (plan n data)) := by
  obtain ⟨a, b, c⟩ := runL_all h.r (by rw [h.n]; exact plan_ok0 h1 h2 hd) (by rw [h.c, plan_len]; decide)
  refine ⟨a, b.trans h.n, ?_⟩
  have e : plan n data = (plan n data).take 9 ++ [⟨true, ⟨0, []⟩⟩] := rfl
  rw [e]
  refine runL_calm ?_ rfl
  exact (runL_all h.r (by rw [h.n]; exact (plan_ok0 h1 h2 hd).take) (by rw [h.c, List.length_take]; simp; omega)).1
theorem plan_rd {d : Dsk} {n i : Nat} {data : List UInt8} (h : Calm d) (h1 : 1 ≤ n) (h2 : n ≤ 16) (hd : data.length = 32) (hi : i < 35) : (runL d (plan n data)).read i =
    if i = 0 then zs else if i = 1 then data.take 16 else if i = 2 then data.drop 16 else if i = 2 * n + 1 then data.take 16 else if i = 2 * n + 2 then data.drop 16 else d.read i := by
  rw [(runL_all h.r (by rw [h.n]; exact plan_ok0 h1 h2 hd) (by rw [h.c, plan_len]; decide)).2.2 i (by rw [h.n]; exact hi), plan_read h1]

theorem getS_plan {d : Dsk} {n q : Nat} {data : List UInt8} (h : Calm d) (h1 : 1 ≤ n) (h2 : n ≤ 16) (hd : data.length = 32) (q1 : 1 ≤ q) (q2 : q ≤ 16) :
    getS (runL d (plan n data)) q = if q = n then data else getS d q := by
  unfold getS
  rw [plan_rd h h1 h2 hd (by omega), plan_rd h h1 h2 hd (by omega)]
  by_cases e : q = n
  · subst e
    rw [if_pos rfl, if_neg (by omega), if_neg (by omega), if_neg (by omega), if_pos rfl, if_neg (by omega), if_neg (by omega), if_neg (by omega), if_neg (by omega), if_pos rfl]
    exact List.take_append_drop 16 data
  · rw [if_neg e, if_neg (by omega), if_neg (by omega), if_neg (by omega), if_neg (by omega), if_neg (by omega), if_neg (by omega), if_neg (by omega), if_neg (by omega), if_neg (by omega), if_neg (by omega)]

theorem repair_zs {d : Dsk} (h : d.read 0 = zs) : repair d = [] := by
  unfold repair; rw [if_pos h]; split <;> rfl
theorem repair_head {d : Dsk} {n : Nat} (hu : usable d) (h1 : 1 ≤ n) (h2 : n ≤ 16) (h : d.read 0 = headL n) : repair d = halves (home n) (d.read 1) (d.read 2) ++ topL zs := by
  unfold repair
  rw [if_pos hu, h, if_neg (headL_ne n), hdN_head h1 h2, if_pos (by omega)]
theorem rep_eq {n : Nat} {a b : List UInt8} : halves (home n) a b ++ topL zs = [⟨false, ⟨(2 * n + 1 : Nat), a⟩⟩, ⟨false, ⟨(2 * n + 2 : Nat), b⟩⟩, ⟨true, ⟨0, []⟩⟩, ⟨false, ⟨0, zs⟩⟩, ⟨true, ⟨0, []⟩⟩] := by
  unfold halves topL home
  simp only [List.cons_append, List.nil_append]
  have e1 : (2 * (n : Int) + 1) = ((2 * n + 1 : Nat) : Int) := by push_cast; rfl
  have e2 : (2 * (n : Int) + 1 + 1) = ((2 * n + 2 : Nat) : Int) := by push_cast; omega
  rw [e2, e1]
theorem rep_ok {n : Nat} {a b : List UInt8} (h2 : n ≤ 16) (ha : a.length = 16) (hb : b.length = 16) : okO 35 (halves (home n) a b ++ topL zs) := by
  rw [rep_eq]
  have hz : zs.length = 16 := rfl
  intro o ho
  simp only [List.mem_cons, List.not_mem_nil, or_false] at ho
  rcases ho with rfl | rfl | rfl | rfl | rfl <;> intro h <;> first | (simp at h; done) | (refine ⟨?_, ?_, ?_⟩ <;> dsimp only <;> first | assumption | omega)
theorem rep_read {n i : Nat} {a b s : List UInt8} : rdO (halves (home n) a b ++ topL zs) i s = if i = 0 then zs else if i = 2 * n + 1 then a else if i = 2 * n + 2 then b else s := by
  rw [rep_eq]
  simp only [rdO_if, rdO_if0, rdO_sync, rdO_nil]
  repeat' split
  all_goals first | rfl | omega

/-- What the places read behind a crash. -/
theorem cut_inv {f : Nat → List UInt8} {n : Nat} {data : List UInt8} (h0 : f 0 = zs) (h1 : 1 ≤ n) (h2 : n ≤ 16) (r : Nat → List UInt8) (m j : Nat) (hmj : (m = 0 ∧ j = 0) ∨ (m = 0 ∧ j = 1) ∨ (m = 0 ∧ j = 2) ∨ (m = 3 ∧ j = 0) ∨ (m = 3 ∧ j = 1) ∨ (m = 5 ∧ j = 0) ∨ (m = 5 ∧ j = 1) ∨ (m = 5 ∧ j = 2) ∨ (m = 8 ∧ j = 0) ∨ (m = 8 ∧ j = 1) ∨ (m = 10 ∧ j = 0))
    (hr : ∀ i, i < 35 → r i = rdO ((plan n data).take m) i (f i) ∨ ∃ o ∈ ((plan n data).drop m).take j, o.w.at_ = (i : Int) ∧ r i = o.w.data) : Inv f r n (data.take 16) (data.drop 16) ∧ (m = 10 → r 0 = zs ∧ At r n (data.take 16) (data.drop 16)) := by
  have k0 := hr 0 (by omega)
  have k1 := hr 1 (by omega)
  have k2 := hr 2 (by omega)
  have ka := hr (2 * n + 1) (by omega)
  have kb := hr (2 * n + 2) (by omega)
  have ko : ∀ q, 1 ≤ q → q ≤ 16 → q ≠ n → r (2 * q + 1) = f (2 * q + 1) ∧ r (2 * q + 2) = f (2 * q + 2) := fun q q1 q2 qn => by
    have x := hr (2 * q + 1) (by omega)
    have y := hr (2 * q + 2) (by omega)
    rw [rdO_none fun o ho hs he => by have := plan_at o (List.mem_of_mem_take ho); omega] at x y
    refine ⟨x.resolve_right ?_, y.resolve_right ?_⟩
    · rintro ⟨o, ho, he, -⟩
      have := plan_at o (List.mem_of_mem_drop (List.mem_of_mem_take ho)); omega
    · rintro ⟨o, ho, he, -⟩
      have := plan_at o (List.mem_of_mem_drop (List.mem_of_mem_take ho)); omega
  clear hr
  rw [plan_eq] at k0 k1 k2 ka kb
  have f1 : ((0 : Int) = ((2 * n + 1 : Nat) : Int)) = False := eq_false (by omega)
  have f2 : ((0 : Int) = ((2 * n + 2 : Nat) : Int)) = False := eq_false (by omega)
  have f3 : ((1 : Int) = ((2 * n + 1 : Nat) : Int)) = False := eq_false (by omega)
  have f4 : ((1 : Int) = ((2 * n + 2 : Nat) : Int)) = False := eq_false (by omega)
  have f5 : ((2 : Int) = ((2 * n + 1 : Nat) : Int)) = False := eq_false (by omega)
  have f6 : ((2 : Int) = ((2 * n + 2 : Nat) : Int)) = False := eq_false (by omega)
  have f7 : (((2 * n + 1 : Nat) : Int) = ((0 : Nat) : Int)) = False := eq_false (by omega)
  have f8 : (((2 * n + 1 : Nat) : Int) = ((1 : Nat) : Int)) = False := eq_false (by omega)
  have f9 : (((2 * n + 1 : Nat) : Int) = ((2 : Nat) : Int)) = False := eq_false (by omega)
  have f10 : (((2 * n + 2 : Nat) : Int) = ((0 : Nat) : Int)) = False := eq_false (by omega)
  have f11 : (((2 * n + 2 : Nat) : Int) = ((1 : Nat) : Int)) = False := eq_false (by omega)
  have f12 : (((2 * n + 2 : Nat) : Int) = ((2 : Nat) : Int)) = False := eq_false (by omega)
  have f13 : (((2 * n + 2 : Nat) : Int) = ((2 * n + 1 : Nat) : Int)) = False := eq_false (by omega)
  have f14 : (((2 * n + 1 : Nat) : Int) = ((2 * n + 2 : Nat) : Int)) = False := eq_false (by omega)
  have g1 : (0 = 2 * n + 1) = False := eq_false (by omega)
  have g2 : (0 = 2 * n + 2) = False := eq_false (by omega)
  have g3 : (1 = 2 * n + 1) = False := eq_false (by omega)
  have g4 : (1 = 2 * n + 2) = False := eq_false (by omega)
  have g5 : (2 = 2 * n + 1) = False := eq_false (by omega)
  have g6 : (2 = 2 * n + 2) = False := eq_false (by omega)
  have g7 : (2 * n + 1 = 0) = False := eq_false (by omega)
  have g8 : (2 * n + 1 = 1) = False := eq_false (by omega)
  have g9 : (2 * n + 1 = 2) = False := eq_false (by omega)
  have g10 : (2 * n + 2 = 0) = False := eq_false (by omega)
  have g11 : (2 * n + 2 = 1) = False := eq_false (by omega)
  have g12 : (2 * n + 2 = 2) = False := eq_false (by omega)
  have g13 : (2 * n + 2 = 2 * n + 1) = False := eq_false (by omega)
  have g14 : (2 * n + 1 = 2 * n + 2) = False := eq_false (by omega)
  have z1 : ((1 : Int) = ((0 : Nat) : Int)) = False := eq_false (by omega)
  have z2 : ((2 : Int) = ((0 : Nat) : Int)) = False := eq_false (by omega)
  have z3 : ((0 : Int) = ((1 : Nat) : Int)) = False := eq_false (by omega)
  have z4 : ((0 : Int) = ((2 : Nat) : Int)) = False := eq_false (by omega)
  have z5 : ((2 : Int) = ((1 : Nat) : Int)) = False := eq_false (by omega)
  have z6 : ((1 : Int) = ((2 : Nat) : Int)) = False := eq_false (by omega)
  have y0 : ((0 : Int) = ((0 : Nat) : Int)) = True := eq_true rfl
  have y1 : ((1 : Int) = ((1 : Nat) : Int)) = True := eq_true rfl
  have y2 : ((2 : Int) = ((2 : Nat) : Int)) = True := eq_true rfl
  have w1 : ((0 : Nat) = 1) = False := eq_false (by omega)
  have w2 : ((0 : Nat) = 2) = False := eq_false (by omega)
  have w3 : ((1 : Nat) = 2) = False := eq_false (by omega)
  have w4 : ((1 : Nat) = 0) = False := eq_false (by omega)
  have w5 : ((2 : Nat) = 0) = False := eq_false (by omega)
  have w6 : ((2 : Nat) = 1) = False := eq_false (by omega)
  refine ⟨⟨ko, ?_⟩, ?_⟩
  all_goals
    rcases hmj with ⟨rfl, rfl⟩ | ⟨rfl, rfl⟩ | ⟨rfl, rfl⟩ | ⟨rfl, rfl⟩ | ⟨rfl, rfl⟩ | ⟨rfl, rfl⟩ | ⟨rfl, rfl⟩ | ⟨rfl, rfl⟩ | ⟨rfl, rfl⟩ | ⟨rfl, rfl⟩ | ⟨rfl, rfl⟩ <;>
    simp only [List.take_succ_cons, List.take_zero, List.drop_succ_cons, List.drop_zero, List.drop_nil, List.take_nil, rdO_if, rdO_if0, rdO_if1, rdO_if2, rdO_sync, rdO_nil, List.mem_cons, List.not_mem_nil, or_false, false_or, false_and, true_and, exists_const, exists_eq_or_imp, exists_eq_left,
      f1, f2, f3, f4, f5, f6, f7, f8, f9, f10, f11, f12, f13, f14, g1, g2, g3, g4, g5, g6, g7, g8, g9, g10, g11, g12, g13, g14, z1, z2, z3, z4, z5, z6, y0, y1, y2, w1, w2, w3, w4, w5, w6, if_false, if_true, h0] at k0 k1 k2 ka kb
  all_goals (clear f1 f2 f3 f4 f5 f6 f7 f8 f9 f10 f11 f12 f13 f14 g1 g2 g3 g4 g5 g6 g7 g8 g9 g10 g11 g12 g13 g14 z1 z2 z3 z4 z5 z6 y0 y1 y2 w1 w2 w3 w4 w5 w6)
  all_goals first
    | exact fun h => absurd h (by decide)
    | exact fun _ => ⟨k0, ka, kb⟩
    | exact .inl ⟨k0, .inl ⟨ka, kb⟩⟩
    | exact .inl ⟨k0, .inr ⟨ka, kb⟩⟩
    | exact .inr ⟨k0, k1, k2⟩
    | exact k0.elim (fun k0 => .inl ⟨k0, .inl ⟨ka, kb⟩⟩) (fun k0 => .inr ⟨k0, k1, k2⟩)
    | exact k0.elim (fun k0 => .inr ⟨k0, k1, k2⟩) (fun k0 => .inl ⟨k0, .inr ⟨ka, kb⟩⟩)


theorem rep_at {n : Nat} {a b : List UInt8} : ∀ o ∈ halves (home n) a b ++ topL zs, o.w.at_ = 0 ∨ o.w.at_ = (2 * n + 1 : Nat) ∨ o.w.at_ = (2 * n + 2 : Nat) := by
  rw [rep_eq]
  intro o ho
  simp only [List.mem_cons, List.not_mem_nil, or_false] at ho
  rcases ho with rfl | rfl | rfl | rfl | rfl <;> simp

/-- The same of a repair. -/
theorem rep_inv {f : Nat → List UInt8} {n : Nat} {a b : List UInt8} (h0 : f 0 = headL n) (e1 : f 1 = a) (e2 : f 2 = b) (h1 : 1 ≤ n) (h2 : n ≤ 16) (r : Nat → List UInt8) (m j : Nat) (hmj : (m = 0 ∧ j = 0) ∨ (m = 0 ∧ j = 1) ∨ (m = 0 ∧ j = 2) ∨ (m = 3 ∧ j = 0) ∨ (m = 3 ∧ j = 1) ∨ (m = 5 ∧ j = 0))
    (hr : ∀ i, i < 35 → r i = rdO ((halves (home n) a b ++ topL zs).take m) i (f i) ∨ ∃ o ∈ ((halves (home n) a b ++ topL zs).drop m).take j, o.w.at_ = (i : Int) ∧ r i = o.w.data) :
    (∀ q, 1 ≤ q → q ≤ 16 → q ≠ n → At r q (f (2 * q + 1)) (f (2 * q + 2))) ∧ ((r 0 = zs ∧ At r n a b) ∨ (r 0 = headL n ∧ r 1 = a ∧ r 2 = b)) := by
  have k0 := hr 0 (by omega)
  have k1 := hr 1 (by omega)
  have k2 := hr 2 (by omega)
  have ka := hr (2 * n + 1) (by omega)
  have kb := hr (2 * n + 2) (by omega)
  have ko : ∀ q, 1 ≤ q → q ≤ 16 → q ≠ n → r (2 * q + 1) = f (2 * q + 1) ∧ r (2 * q + 2) = f (2 * q + 2) := fun q q1 q2 qn => by
    have x := hr (2 * q + 1) (by omega)
    have y := hr (2 * q + 2) (by omega)
    rw [rdO_none fun o ho hs he => by have := rep_at o (List.mem_of_mem_take ho); omega] at x y
    refine ⟨x.resolve_right ?_, y.resolve_right ?_⟩
    · rintro ⟨o, ho, he, -⟩
      have := rep_at o (List.mem_of_mem_drop (List.mem_of_mem_take ho)); omega
    · rintro ⟨o, ho, he, -⟩
      have := rep_at o (List.mem_of_mem_drop (List.mem_of_mem_take ho)); omega
  clear hr
  rw [rep_eq] at k0 k1 k2 ka kb
  have f1 : ((0 : Int) = ((2 * n + 1 : Nat) : Int)) = False := eq_false (by omega)
  have f2 : ((0 : Int) = ((2 * n + 2 : Nat) : Int)) = False := eq_false (by omega)
  have f3 : ((1 : Int) = ((2 * n + 1 : Nat) : Int)) = False := eq_false (by omega)
  have f4 : ((1 : Int) = ((2 * n + 2 : Nat) : Int)) = False := eq_false (by omega)
  have f5 : ((2 : Int) = ((2 * n + 1 : Nat) : Int)) = False := eq_false (by omega)
  have f6 : ((2 : Int) = ((2 * n + 2 : Nat) : Int)) = False := eq_false (by omega)
  have f7 : (((2 * n + 1 : Nat) : Int) = ((0 : Nat) : Int)) = False := eq_false (by omega)
  have f8 : (((2 * n + 1 : Nat) : Int) = ((1 : Nat) : Int)) = False := eq_false (by omega)
  have f9 : (((2 * n + 1 : Nat) : Int) = ((2 : Nat) : Int)) = False := eq_false (by omega)
  have f10 : (((2 * n + 2 : Nat) : Int) = ((0 : Nat) : Int)) = False := eq_false (by omega)
  have f11 : (((2 * n + 2 : Nat) : Int) = ((1 : Nat) : Int)) = False := eq_false (by omega)
  have f12 : (((2 * n + 2 : Nat) : Int) = ((2 : Nat) : Int)) = False := eq_false (by omega)
  have f13 : (((2 * n + 2 : Nat) : Int) = ((2 * n + 1 : Nat) : Int)) = False := eq_false (by omega)
  have f14 : (((2 * n + 1 : Nat) : Int) = ((2 * n + 2 : Nat) : Int)) = False := eq_false (by omega)
  have g1 : (0 = 2 * n + 1) = False := eq_false (by omega)
  have g2 : (0 = 2 * n + 2) = False := eq_false (by omega)
  have g3 : (1 = 2 * n + 1) = False := eq_false (by omega)
  have g4 : (1 = 2 * n + 2) = False := eq_false (by omega)
  have g5 : (2 = 2 * n + 1) = False := eq_false (by omega)
  have g6 : (2 = 2 * n + 2) = False := eq_false (by omega)
  have g7 : (2 * n + 1 = 0) = False := eq_false (by omega)
  have g8 : (2 * n + 1 = 1) = False := eq_false (by omega)
  have g9 : (2 * n + 1 = 2) = False := eq_false (by omega)
  have g10 : (2 * n + 2 = 0) = False := eq_false (by omega)
  have g11 : (2 * n + 2 = 1) = False := eq_false (by omega)
  have g12 : (2 * n + 2 = 2) = False := eq_false (by omega)
  have g13 : (2 * n + 2 = 2 * n + 1) = False := eq_false (by omega)
  have g14 : (2 * n + 1 = 2 * n + 2) = False := eq_false (by omega)
  have z1 : ((1 : Int) = ((0 : Nat) : Int)) = False := eq_false (by omega)
  have z2 : ((2 : Int) = ((0 : Nat) : Int)) = False := eq_false (by omega)
  have z3 : ((0 : Int) = ((1 : Nat) : Int)) = False := eq_false (by omega)
  have z4 : ((0 : Int) = ((2 : Nat) : Int)) = False := eq_false (by omega)
  have z5 : ((2 : Int) = ((1 : Nat) : Int)) = False := eq_false (by omega)
  have z6 : ((1 : Int) = ((2 : Nat) : Int)) = False := eq_false (by omega)
  have y0 : ((0 : Int) = ((0 : Nat) : Int)) = True := eq_true rfl
  have y1 : ((1 : Int) = ((1 : Nat) : Int)) = True := eq_true rfl
  have y2 : ((2 : Int) = ((2 : Nat) : Int)) = True := eq_true rfl
  have w1 : ((0 : Nat) = 1) = False := eq_false (by omega)
  have w2 : ((0 : Nat) = 2) = False := eq_false (by omega)
  have w3 : ((1 : Nat) = 2) = False := eq_false (by omega)
  have w4 : ((1 : Nat) = 0) = False := eq_false (by omega)
  have w5 : ((2 : Nat) = 0) = False := eq_false (by omega)
  have w6 : ((2 : Nat) = 1) = False := eq_false (by omega)
  refine ⟨ko, ?_⟩
  all_goals
    rcases hmj with ⟨rfl, rfl⟩ | ⟨rfl, rfl⟩ | ⟨rfl, rfl⟩ | ⟨rfl, rfl⟩ | ⟨rfl, rfl⟩ | ⟨rfl, rfl⟩ <;>
    simp only [List.take_succ_cons, List.take_zero, List.drop_succ_cons, List.drop_zero, List.drop_nil, List.take_nil, rdO_if, rdO_if0, rdO_if1, rdO_if2, rdO_sync, rdO_nil, List.mem_cons, List.not_mem_nil, or_false, false_or, false_and, true_and, exists_const, exists_eq_or_imp, exists_eq_left,
      f1, f2, f3, f4, f5, f6, f7, f8, f9, f10, f11, f12, f13, f14, g1, g2, g3, g4, g5, g6, g7, g8, g9, g10, g11, g12, g13, g14, z1, z2, z3, z4, z5, z6, y0, y1, y2, w1, w2, w3, w4, w5, w6, if_false, if_true, h0, e1, e2] at k0 k1 k2 ka kb
  all_goals (clear f1 f2 f3 f4 f5 f6 f7 f8 f9 f10 f11 f12 f13 f14 g1 g2 g3 g4 g5 g6 g7 g8 g9 g10 g11 g12 g13 g14 z1 z2 z3 z4 z5 z6 y0 y1 y2 w1 w2 w3 w4 w5 w6)
  all_goals first
    | exact .inl ⟨k0, ka, kb⟩
    | exact .inr ⟨k0, k1, k2⟩
    | exact k0.elim (fun k0 => .inr ⟨k0, k1, k2⟩) (fun k0 => .inl ⟨k0, ka, kb⟩)

/-- A plan's first part, a crash. -/
theorem plan_cut {d : Dsk} {n k : Nat} {data : List UInt8} {keep : List Int} (h : Calm d) (h0 : d.read 0 = zs) (h1 : 1 ≤ n) (h2 : n ≤ 16) (hd : data.length = 32) :
    Calm ((runL d ((plan n data).take k)).crash keep) ∧ Inv d.read ((runL d ((plan n data).take k)).crash keep).read n (data.take 16) (data.drop 16) ∧
    (10 ≤ k → ((runL d ((plan n data).take k)).crash keep).read 0 = zs ∧ At ((runL d ((plan n data).take k)).crash keep).read n (data.take 16) (data.drop 16)) := by
  have hp := plan_ok0 h1 h2 hd
  have key : ∀ m j : Nat, m + j ≤ 10 → (∀ o ∈ ((plan n data).drop m).take j, o.sync = false) → (runL d ((plan n data).take m)).cache = [] →
      Calm ((runL d ((plan n data).take (m + j))).crash keep) ∧ ∀ i, i < 35 → ((runL d ((plan n data).take (m + j))).crash keep).read i = rdO ((plan n data).take m) i (d.read i) ∨
        ∃ o ∈ ((plan n data).drop m).take j, o.w.at_ = (i : Int) ∧ ((runL d ((plan n data).take (m + j))).crash keep).read i = o.w.data := fun m j hmj hs hc => by
    have := crash_run (l := (plan n data).take m) (m := ((plan n data).drop m).take j) (keep := keep) h.r h.n hp.take (fun o ho => hp o (List.mem_of_mem_drop (List.mem_of_mem_take ho)))
      (by rw [h.c, List.length_take, List.length_take, List.length_drop, plan_len]; simp; omega) hs hc
    rw [← List.take_add] at this
    exact this
  have calm : ∀ m o, (plan n data).take (m + 1) = (plan n data).take m ++ [o] → o.sync = true → (runL d ((plan n data).take (m + 1))).cache = [] := fun m o e hs => by
    rw [e]
    exact runL_calm (runL_all h.r (by rw [h.n]; exact hp.take) (by rw [h.c, List.length_take, plan_len]; simp; omega)).1 hs
  have c0 : (runL d ((plan n data).take 0)).cache = [] := h.c
  have c3 : (runL d ((plan n data).take 3)).cache = [] := calm 2 ⟨true, ⟨0, []⟩⟩ rfl rfl
  have c5 : (runL d ((plan n data).take 5)).cache = [] := calm 4 ⟨true, ⟨0, []⟩⟩ rfl rfl
  have c8 : (runL d ((plan n data).take 8)).cache = [] := calm 7 ⟨true, ⟨0, []⟩⟩ rfl rfl
  have c10 : (runL d ((plan n data).take 10)).cache = [] := calm 9 ⟨true, ⟨0, []⟩⟩ rfl rfl
  have hk : (plan n data).take k = (plan n data).take (min k 10) := by
    rcases Nat.le_total k 10 with h | h
    · rw [Nat.min_eq_left h]
    · rw [Nat.min_eq_right h, List.take_of_length_le (by rw [plan_len]; exact h), List.take_of_length_le (by rw [plan_len]; exact Nat.le_refl _)]
  rw [hk]
  have hk10 : 10 ≤ k → min k 10 = 10 := Nat.min_eq_right
  have hmk : min k 10 ≤ 10 := Nat.min_le_right _ _
  generalize min k 10 = z at *
  have fin : ∀ m j : Nat, z = m + j → ((m = 0 ∧ j = 0) ∨ (m = 0 ∧ j = 1) ∨ (m = 0 ∧ j = 2) ∨ (m = 3 ∧ j = 0) ∨ (m = 3 ∧ j = 1) ∨ (m = 5 ∧ j = 0) ∨ (m = 5 ∧ j = 1) ∨ (m = 5 ∧ j = 2) ∨ (m = 8 ∧ j = 0) ∨ (m = 8 ∧ j = 1) ∨ (m = 10 ∧ j = 0)) →
      (∀ o ∈ ((plan n data).drop m).take j, o.sync = false) → (runL d ((plan n data).take m)).cache = [] → (10 ≤ k → m = 10) →
      Calm ((runL d ((plan n data).take z)).crash keep) ∧ Inv d.read ((runL d ((plan n data).take z)).crash keep).read n (data.take 16) (data.drop 16) ∧
      (10 ≤ k → ((runL d ((plan n data).take z)).crash keep).read 0 = zs ∧ At ((runL d ((plan n data).take z)).crash keep).read n (data.take 16) (data.drop 16)) := fun m j e hmj hs hc h10 => by
    subst e
    obtain ⟨k1, k2⟩ := key m j hmk hs hc
    obtain ⟨k3, k4⟩ := cut_inv h0 h1 h2 _ m j hmj k2
    exact ⟨k1, k3, fun h => k4 (h10 h)⟩
  rcases (show z = 0 ∨ z = 1 ∨ z = 2 ∨ z = 3 ∨ z = 4 ∨ z = 5 ∨ z = 6 ∨ z = 7 ∨ z = 8 ∨ z = 9 ∨ z = 10 by omega) with rfl | rfl | rfl | rfl | rfl | rfl | rfl | rfl | rfl | rfl | rfl
  · exact fin 0 0 rfl (by omega) (by intro o ho; simp at ho) c0 (by omega)
  · exact fin 0 1 rfl (by omega) (by rw [plan_eq]; simp) c0 (by omega)
  · exact fin 0 2 rfl (by omega) (by rw [plan_eq]; simp) c0 (by omega)
  · exact fin 3 0 rfl (by omega) (by intro o ho; simp at ho) c3 (by omega)
  · exact fin 3 1 rfl (by omega) (by rw [plan_eq]; simp) c3 (by omega)
  · exact fin 5 0 rfl (by omega) (by intro o ho; simp at ho) c5 (by omega)
  · exact fin 5 1 rfl (by omega) (by rw [plan_eq]; simp) c5 (by omega)
  · exact fin 5 2 rfl (by omega) (by rw [plan_eq]; simp) c5 (by omega)
  · exact fin 8 0 rfl (by omega) (by intro o ho; simp at ho) c8 (by omega)
  · exact fin 8 1 rfl (by omega) (by rw [plan_eq]; simp) c8 (by omega)
  · exact fin 10 0 rfl (by omega) (by intro o ho; simp at ho) c10 (by omega)
end Lk.S12
