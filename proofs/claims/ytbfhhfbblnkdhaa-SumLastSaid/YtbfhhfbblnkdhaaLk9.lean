/-
  The abstract machine, part 9: freezing; stores.
-/
import Derived.Test.YtbfhhfbblnkdhaaLk8
namespace Lk
open Go Go.RowKit
section
variable {P : Program} {O : Nat → Prop} {W : World} {N : Nat} {fr : Nat → AV} {gc : Nat → Nat} {a : Act} {w : World} {be : Nm}

/-- After some entries are frozen: the relation stays, readings stay. -/
structure Fz (O : Nat → Prop) (W : World) (N : Nat) (fr : Nat → AV) (gc : Nat → Nat) (a : Act) (w : World) (be : Nm) (hp hp' : Nat → Option Ent) : Prop where
  rel : Rel O W N ⟨fr, hp, gc⟩ a w be → Rel O W N ⟨fr, hp', gc⟩ a w be
  keeps : Rel O W N ⟨fr, hp, gc⟩ a w be → Keeps be gc (own O be ⟨fr, hp, gc⟩) w be gc (own O be ⟨fr, hp', gc⟩) w

theorem Fz.refl (hp : Nat → Option Ent) : Fz O W N fr gc a w be hp hp := ⟨id, fun _ => Keeps.refl _ _ _ _⟩
theorem Keeps.trans {be0 be1 be2 : Nm} {g0 g1 g2 : Nat → Nat} {O0 O1 O2 : Nat → Prop} {w0 w1 w2 : World} (h : Keeps be0 g0 O0 w0 be1 g1 O1 w1) (k : Keeps be1 g1 O1 w1 be2 g2 O2 w2) (hw : w0.heap.size ≤ w1.heap.size) :
    Keeps be0 g0 O0 w0 be2 g2 O2 w2 :=
  ⟨fun s => Nat.le_trans (h.hga s) (k.hga s), fun s q hq => (k.hbe s q (Nat.le_trans hq (h.hga s))).trans (h.hbe s q hq), fun b hb ho => h.hO b hb (k.hO b (by omega) ho),
   fun b o u hno hu => k.cell b o u (fun ho => hno (h.hO b (World.block_lt_of_cell? _ _ hu) ho)) (h.cell b o u hno hu),
   fun b cs el fz hb => by
    obtain ⟨cs1, el1, fz1, h1, e1⟩ := h.shape b cs el fz hb
    obtain ⟨cs2, el2, fz2, h2, e2⟩ := k.shape b cs1 el1 fz1 h1
    exact ⟨cs2, el2, fz2, h2, e2.trans e1⟩⟩
theorem Fz.trans {hp hp' hp'' : Nat → Option Ent} (h : Fz O W N fr gc a w be hp hp') (k : Fz O W N fr gc a w be hp' hp'') : Fz O W N fr gc a w be hp hp'' :=
  ⟨fun r => k.rel (h.rel r), fun r => (h.keeps r).trans (k.keeps (h.rel r)) (Nat.le_refl _)⟩

theorem putH_append (l m : List (Nat × Ent)) : ∀ (hp : Nat → Option Ent), putH (l ++ m) hp = putH m (putH l hp) := by
  induction l with
  | nil => intro hp; rfl
  | cons x l ih => intro hp; obtain ⟨s, e⟩ := x; exact ih _

theorem isDat_RC {v : AV} {u : Value} (h : isDat v) {ga : Nat → Nat} {Q : Nat → Prop} (hr : RA be ga Q w v u) : RC Q w (cellOf v) u := by
  unfold isDat at h
  split at h
  · exact hr
  · exact .inl ⟨rfl, none, hr⟩
  · exact h.elim

/-- The cells of an entry that is frozen, as data. -/
theorem frz_os {hp : Nat → Option Ent} (h : Rel O W N ⟨fr, hp, gc⟩ a w be) {s size off len : Nat} {e : Ent} (hs : hp s = some e) (hsz : e.size = size) (hle : off + len ≤ e.n) {f : Nat → Nat → Cell}
    (hf : ∀ i, i < len → ∀ j, j < size → ∀ u, RA be gc (own O be ⟨fr, hp, gc⟩) w (e.c.at (off + i) j) u → RC (own O be ⟨fr, hp, gc⟩) w (f i j) u) {u : Value} (hu : RA be gc (own O be ⟨fr, hp, gc⟩) w (.os s (gc s) size off len) u) :
    RC (own O be ⟨fr, setH hp s { e with fz := true }, gc⟩) w (.sl size len f) u := by
  have k := keeps_freeze (O := O) (fr := fr) (gc := gc) (be := be) (w := w) hs
  rcases hu.2 with ⟨_, _, rfl, rfl⟩ | ⟨b, oo, cap, cs, el, fz, hb, rfl, hc1, hc2, hc3, hh, hc4⟩
  · exact .inl ⟨rfl, none, rfl⟩
  · refine .inr ⟨b, oo, cap, rfl, hc1, hc2, fun i hi j hj => ?_⟩
    obtain ⟨u, hu, _, hr⟩ := ent_at h.ent hs hb (row := off + i) (col := j) (by omega) (by omega)
    refine ⟨fun ho => ?_, u, ?_, k.rc (hf i hi j hj u hr)⟩
    · rcases ho with ho | ⟨s', e', h1, h2, h3⟩
      · have h4 := h.outer b ho
        rcases h.ent s e hs with ⟨h0, _⟩ | ⟨b', _, _, _, h5, h6, _⟩
        · rw [show be s (gc s) = some b from hb] at h0; exact absurd h0 (by simp)
        · rw [show be s (gc s) = some b from hb] at h5
          obtain rfl := Option.some.inj h5
          omega
      · by_cases hss : s' = s
        · subst hss
          simp only [setH_same] at h1
          obtain rfl := Option.some.inj h1
          exact absurd h2 (by simp)
        · simp only [setH_ne _ _ hss] at h1 h3
          exact hss (h.dist s' s e' e b h1 hs h3 hb h2)
    · rw [hsz, Nat.add_mul] at hu
      rw [hc3 (by omega)]
      exact hu

theorem frzC_run {hp : Nat → Option Ent} {v : AV} {L : Cell × List (Nat × Ent) → Prop} (h : (frzC hp gc v).run L) :
    ∃ x hs, L (x, hs) ∧ ∀ {O W N fr a w be}, Fz O W N fr gc a w be hp (putH hs hp) ∧ (Rel O W N ⟨fr, hp, gc⟩ a w be → ∀ u, RA be gc (own O be ⟨fr, hp, gc⟩) w v u → RC (own O be ⟨fr, putH hs hp, gc⟩) w x u) := by
  unfold frzC at h
  split at h
  · exact ⟨_, _, h, fun {_ _ _ _ _ _ _} => ⟨Fz.refl _, fun _ u hu => hu⟩⟩
  · exact ⟨_, _, h, fun {_ _ _ _ _ _ _} => ⟨Fz.refl _, fun _ u hu => .inl ⟨rfl, none, hu⟩⟩⟩
  · rename_i s q size off len
    replace h := getE_run h
    obtain ⟨rfl, e, hs, h⟩ := h
    rw [M.run_iff', M.run_need] at h
    obtain ⟨hz, hle, h⟩ := h
    have hz := beqN hz
    split at h
    · rename_i c hc
      refine ⟨_, _, h, fun {_ _ _ _ _ _ _} => ⟨⟨fun r => r.freeze hs, fun r => keeps_freeze hs⟩, fun r u hu => frz_os r hs hz hle (fun i hi j hj u hu => by rw [hc] at hu; exact hu) hu⟩⟩
    · rename_i c hc
      refine ⟨_, _, h.r, fun {_ _ _ _ _ _ _} => ⟨⟨fun r => r.freeze hs, fun r => keeps_freeze hs⟩, fun r u hu => frz_os r hs hz hle (fun i hi j hj u hu => ?_) hu⟩⟩
      rw [hc] at hu
      exact isDat_RC (h.l i hi j hj) hu
    · exact h.elim
  · exact h.elim

theorem frzN_run : ∀ (m j : Nat) (f : Nat → AV) (hp : Nat → Option Ent) (L : (Nat → Cell) × List (Nat × Ent) → Prop), (frzN hp gc m j f).run L →
    ∃ g hs, L (g, hs) ∧ ∀ {O W N fr a w be}, Fz O W N fr gc a w be hp (putH hs hp) ∧ (Rel O W N ⟨fr, hp, gc⟩ a w be → ∀ i, i < m → ∀ u, RA be gc (own O be ⟨fr, hp, gc⟩) w (f (j + i)) u → RC (own O be ⟨fr, putH hs hp, gc⟩) w (g i) u)
  | 0, j, f, hp, L, h => ⟨_, _, h, fun {_ _ _ _ _ _ _} => ⟨Fz.refl _, fun _ i hi => absurd hi (by omega)⟩⟩
  | m + 1, j, f, hp, L, h => by
    simp only [frzN, M.run_bind] at h
    replace h := frzC_run h
    obtain ⟨x, hs1, h, p1⟩ := h
    replace h := frzN_run m (j + 1) f _ _ h
    obtain ⟨g, hs2, h, p2⟩ := h
    refine ⟨_, _, h, fun {O W N fr a w be} => ?_⟩
    obtain ⟨f1, r1⟩ := p1 (O := O) (W := W) (N := N) (fr := fr) (a := a) (w := w) (be := be)
    obtain ⟨f2, r2⟩ := p2 (O := O) (W := W) (N := N) (fr := fr) (a := a) (w := w) (be := be)
    simp only [putH_append]
    refine ⟨f1.trans f2, fun r i hi u hu => ?_⟩
    cases i with
    | zero => exact (f2.keeps (f1.rel r)).rc (r1 r u hu)
    | succ i => exact r2 (f1.rel r) i (by omega) u ((f1.keeps r).ra u (by rw [show j + 1 + i = j + (i + 1) by omega]; exact hu))

theorem stoV_run {hp : Nat → Option Ent} {keep : Bool} {v : AV} {L : AV × List (Nat × Ent) → Prop} (h : (stoV hp gc keep v).run L) :
    ∃ x hs, L (x, hs) ∧ ∀ {O W N fr a w be}, Fz O W N fr gc a w be hp (putH hs hp) ∧ (Rel O W N ⟨fr, hp, gc⟩ a w be → ∀ u, RA be gc (own O be ⟨fr, hp, gc⟩) w v u → RA be gc (own O be ⟨fr, putH hs hp, gc⟩) w x u ∧ u.oneCell' = true) := by
  unfold stoV at h
  split at h
  · rename_i s q size off len
    cases keep with
    | true => exact ⟨_, _, h, fun {_ _ _ _ _ _ _} => ⟨Fz.refl _, fun _ u hu => ⟨hu, by obtain ⟨p, cap, e, _⟩ := RA_os_val hu; rw [e]; rfl⟩⟩⟩
    | false =>
      simp only [cond_false, M.run_bind] at h
      replace h := frzC_run h
      obtain ⟨x, hs, h, p⟩ := h
      refine ⟨_, _, h, fun {O W N fr a w be} => ?_⟩
      obtain ⟨f1, r1⟩ := p (O := O) (W := W) (N := N) (fr := fr) (a := a) (w := w) (be := be)
      exact ⟨f1, fun r u hu => ⟨r1 r u hu, by obtain ⟨p, cap, e, _⟩ := RA_os_val hu; rw [e]; rfl⟩⟩
  · exact ⟨_, _, h, fun {_ _ _ _ _ _ _} => ⟨Fz.refl _, fun _ u hu => ⟨hu, RC_one hu⟩⟩⟩
  · cases keep with
    | true => exact ⟨_, _, h, fun {_ _ _ _ _ _ _} => ⟨Fz.refl _, fun _ u hu => ⟨hu, by rw [show u = .slice none 0 0 from hu]; rfl⟩⟩⟩
    | false => exact ⟨_, _, h, fun {_ _ _ _ _ _ _} => ⟨Fz.refl _, fun _ u hu => ⟨.inl ⟨rfl, none, hu⟩, by rw [show u = .slice none 0 0 from hu]; rfl⟩⟩⟩
  · exact h.elim

theorem stoN_run {keep : Bool} : ∀ (m j : Nat) (f : Nat → AV) (hp : Nat → Option Ent) (L : (Nat → AV) × List (Nat × Ent) → Prop), (stoN hp gc keep m j f).run L →
    ∃ g hs, L (g, hs) ∧ ∀ {O W N fr a w be}, Fz O W N fr gc a w be hp (putH hs hp) ∧ (Rel O W N ⟨fr, hp, gc⟩ a w be → ∀ i, i < m → ∀ u, RA be gc (own O be ⟨fr, hp, gc⟩) w (f (j + i)) u → RA be gc (own O be ⟨fr, putH hs hp, gc⟩) w (g i) u ∧ u.oneCell' = true)
  | 0, j, f, hp, L, h => ⟨_, _, h, fun {_ _ _ _ _ _ _} => ⟨Fz.refl _, fun _ i hi => absurd hi (by omega)⟩⟩
  | m + 1, j, f, hp, L, h => by
    simp only [stoN, M.run_bind] at h
    replace h := stoV_run h
    obtain ⟨x, hs1, h, p1⟩ := h
    replace h := stoN_run m (j + 1) f _ _ h
    obtain ⟨g, hs2, h, p2⟩ := h
    refine ⟨_, _, h, fun {O W N fr a w be} => ?_⟩
    obtain ⟨f1, r1⟩ := p1 (O := O) (W := W) (N := N) (fr := fr) (a := a) (w := w) (be := be)
    obtain ⟨f2, r2⟩ := p2 (O := O) (W := W) (N := N) (fr := fr) (a := a) (w := w) (be := be)
    simp only [putH_append]
    refine ⟨f1.trans f2, fun r i hi u hu => ?_⟩
    cases i with
    | zero => exact ⟨(f2.keeps (f1.rel r)).ra u (r1 r u hu).1, (r1 r u hu).2⟩
    | succ i => exact r2 (f1.rel r) i (by omega) u ((f1.keeps r).ra u (by rw [show j + 1 + i = j + (i + 1) by omega]; exact hu))

/-! stores -/

/-- Cells stored one behind the other. -/
theorem run_storeCells_list {b o : Nat} {el : TypeId} {fz : Nat × Nat} : ∀ (vs : List Value) (i : Nat) (cs : Array Value) (w : World), w.heap[b]? = some (.cells cs el fz) → o + i + vs.length ≤ cs.size →
    (∀ k, k < cs.size → ¬ (fz.1 ≤ k ∧ k < fz.2)) → (∀ v ∈ vs, v.oneCell' = true) →
    ∃ w' cs', (storeCells ⟨b, o, none⟩ vs i).run P w = .ok () w' ∧ w'.heap[b]? = some (.cells cs' el fz) ∧ cs'.size = cs.size ∧
      (∀ m, cs'[m]? = if o + i ≤ m ∧ m < o + i + vs.length then vs[m - (o + i)]? else cs[m]?) ∧
      (∀ k, k ≠ b → w'.heap[k]? = w.heap[k]?) ∧ w'.os = w.os ∧ w'.tape = w.tape ∧ w'.output = w.output ∧ w'.heap.size = w.heap.size
  | [], i, cs, w, hb, _, _, _ => ⟨w, cs, rfl, hb, rfl, fun m => by rw [if_neg (by simp only [List.length_nil]; omega)], fun _ _ => rfl, rfl, rfl, rfl, rfl⟩
  | v :: vs, i, cs, w, hb, hl, hc, h1 => by
    simp only [List.length_cons] at hl
    have hcell : w.cell? ⟨b, o + i, none⟩ = some (cs[o + i]'(by omega)) := by
      simp [World.cell?, hb, Array.getElem?_eq_getElem (show o + i < cs.size by omega)]
    have hfrz : w.frozen? ⟨b, o + i, none⟩ = false := by
      have := hc (o + i) (by omega)
      unfold World.frozen?
      rw [hb]
      simp only
      rw [Bool.eq_false_iff]
      intro hh
      simp only [Bool.and_eq_true, decide_eq_true_eq] at hh
      exact this hh
    have hst : (store ⟨b, o + i, none⟩ v).run P w = .ok () (w.setCell ⟨b, o + i, none⟩ v) := by
      rw [run_store P w _ v _ (h1 v (by simp))]
      simp [hcell, hfrz]
    have hb' : (w.setCell ⟨b, o + i, none⟩ v).heap[b]? = some (.cells (cs.setIfInBounds (o + i) v) el fz) := by
      simp [World.setCell, Array.getElem?_modify, hb]
    obtain ⟨w', cs', hr, hh, hs, hm, ho, e1, e2, e3, e4⟩ := run_storeCells_list (b := b) (o := o) vs (i + 1) (cs.setIfInBounds (o + i) v) (w.setCell ⟨b, o + i, none⟩ v) hb' (by rw [Array.size_setIfInBounds]; omega) (by simpa using hc) (fun v hv => h1 v (by simp [hv]))
    refine ⟨w', cs', ?_, hh, by simpa using hs, fun m => ?_, fun k hk => ?_, e1, e2, e3, by simpa using e4⟩
    · unfold storeCells
      simp only [Sem.run_bind, addr_add, hst, Result.andThen_ok]
      exact hr
    · rw [hm m]
      simp only [List.length_cons]
      by_cases hmi : m = o + i
      · subst hmi
        rw [if_neg (by omega), if_pos (by omega), Nat.sub_self, Array.getElem?_setIfInBounds_self]
        simp; omega
      · by_cases hc2 : o + (i + 1) ≤ m ∧ m < o + (i + 1) + vs.length
        · rw [if_pos hc2, if_pos (by omega), show m - (o + i) = (m - (o + (i + 1))) + 1 by omega, List.getElem?_cons_succ]
        · rw [if_neg hc2, if_neg (by omega), Array.getElem?_setIfInBounds_ne (by omega)]
    · rw [ho k hk]
      exact Below.heap_setCell _ _ _ _ hk

/-- What stands in a block after cells were stored. -/
def EC.isUpd (e e' : EC) (row col m : Nat) (g : Nat → AV) (n size : Nat) : Prop :=
  ∀ i, i < n → ∀ j, j < size → (i = row ∧ col ≤ j ∧ j < col + m → e'.at i j = g (j - col)) ∧ (¬ (i = row ∧ col ≤ j ∧ j < col + m) → e'.at i j = e.at i j)

theorem updC_at {α : Type} (c : Nat → Nat → α) (row col : Nat) (v : α) (i j : Nat) : updC c row col v i j = if i = row ∧ j = col then v else c i j := by
  unfold updC
  by_cases hj : j = col
  · subst hj
    by_cases hi : i = row
    · subst hi; simp
    · simp [beq_ne hi, hi]
  · simp [beq_ne hj, hj]

theorem upd1_at {e : EC} {row col : Nat} {v : AV} (hr : ∀ c, e = .var c → row = 0) {i j : Nat} (hi : ∀ c, e = .var c → i = 0) : (e.upd1 row col v).at i j = if i = row ∧ j = col then v else e.at i j := by
  unfold EC.upd1
  split
  · rename_i c
    have h1 := hr c rfl
    have h2 := hi c rfl
    subst h1 h2
    simp only [EC.at, updV]
    by_cases hj : j = col
    · subst hj; simp
    · simp [beq_ne hj, hj]
  · rename_i c
    split
    · simp only [EC.at, updC_at]; split <;> rfl
    · simp only [EC.at, updC_at]
  · simp only [EC.at, updC_at]

theorem upd1_var {e : EC} {row col : Nat} {v : AV} {c : Nat → AV} (h : e.upd1 row col v = .var c) : ∃ c', e = .var c' := by
  cases e with
  | var c' => exact ⟨c', rfl⟩
  | dat c' => unfold EC.upd1 at h; cases v <;> exact absurd h (by simp)
  | gen c' => exact absurd h (by simp [EC.upd1])

theorem updN_isUpd : ∀ (m : Nat) (e : EC) (row col : Nat) (g : Nat → AV) (n size : Nat), (∀ c, e = .var c → row = 0 ∧ n = 1) → EC.isUpd e (e.updN row col m g) row col m g n size
  | 0, e, row, col, g, n, size, _ => fun i hi j hj => ⟨fun h => by omega, fun _ => rfl⟩
  | m + 1, e, row, col, g, n, size, hv => fun i hi j hj => by
    have hv' : ∀ c, e.upd1 row col (g 0) = .var c → row = 0 ∧ n = 1 := fun c hc => by
      obtain ⟨c', hc'⟩ := upd1_var hc
      exact hv c' hc'
    have ih := updN_isUpd m (e.upd1 row col (g 0)) row (col + 1) (fun j => g (j + 1)) n size hv' i hi j hj
    have hat := upd1_at (e := e) (row := row) (col := col) (v := g 0) (fun c hc => (hv c hc).1) (i := i) (j := j) (fun c hc => by have := (hv c hc).2; omega)
    unfold EC.updN
    refine ⟨fun h => ?_, fun h => ?_⟩
    · by_cases hj' : j = col
      · rw [ih.2 (by omega), hat, if_pos ⟨h.1, hj'⟩, hj', Nat.sub_self]
      · rw [ih.1 ⟨h.1, by omega, by omega⟩, show j - col = j - (col + 1) + 1 by omega]
    · rw [ih.2 (fun h2 => h ⟨h2.1, by omega, by omega⟩), hat, if_neg (fun h2 => h ⟨h2.1, by omega, by omega⟩)]

/-- The row of an entry of which cells were stored. -/
theorem Row.upd {ga : Nat → Nat} {Q : Nat → Prop} {e : Ent} {cs cs' : Array Value} {fz : Nat × Nat} (h : Row be ga Q w e cs fz) {c' : EC} {row col m : Nat} {g : Nat → AV} {vs : List Value}
    (hu : EC.isUpd e.c c' row col m g e.n e.size) (hvs : vs.length = m) (hrow : row < e.n) (hcol : col + m ≤ e.size) (hsz : cs'.size = cs.size)
    (hcs : ∀ k, cs'[k]? = if row * e.size + col ≤ k ∧ k < row * e.size + col + m then vs[k - (row * e.size + col)]? else cs[k]?)
    (h1 : ∀ v ∈ vs, v.oneCell' = true) (hg : ∀ j, j < m → ∃ u, vs[j]? = some u ∧ RA be ga Q w (g j) u) : Row be ga Q w { e with c := c' } cs' fz := by
  refine ⟨by rw [hsz]; exact h.fit, by rw [hsz]; exact h.clean, h.plain, fun i u hiu => ?_, fun i hi j hj => ?_⟩
  · rw [hcs i] at hiu
    split at hiu
    · exact h1 u (List.mem_of_getElem? hiu)
    · exact h.one i u hiu
  · simp only at hi hj ⊢
    obtain ⟨u1, u2⟩ := hu i hi j hj
    by_cases hc : i = row ∧ col ≤ j ∧ j < col + m
    · obtain ⟨rfl, hc1, hc2⟩ := hc
      obtain ⟨u, hu, hr⟩ := hg (j - col) (by omega)
      refine ⟨u, ?_, by rw [u1 ⟨rfl, hc1, hc2⟩]; exact hr⟩
      rw [hcs, if_pos (by omega), show i * e.size + j - (i * e.size + col) = j - col by omega]
      exact hu
    · obtain ⟨u, hu, hr⟩ := h.cont i hi j hj
      refine ⟨u, ?_, by rw [u2 hc]; exact hr⟩
      rw [hcs, if_neg]
      · exact hu
      · intro hh
        apply hc
        have hir : i = row := by
          rcases Nat.lt_trichotomy i row with hlt | heq | hgt
          · exfalso
            have : (i + 1) * e.size ≤ row * e.size := Nat.mul_le_mul_right _ hlt
            rw [Nat.add_mul, Nat.one_mul] at this
            omega
          · exact heq
          · exfalso
            have : (row + 1) * e.size ≤ i * e.size := Nat.mul_le_mul_right _ hgt
            rw [Nat.add_mul, Nat.one_mul] at this
            omega
        subst hir
        exact ⟨rfl, by omega, by omega⟩

/-- A store into an own block. -/
theorem Rel.store {hp : Nat → Option Ent} (h : Rel O W N ⟨fr, hp, gc⟩ a w be) {t : TypeId} {i : TypeInfo} (hi : P.info? t = some i) {s b row col m : Nat} {e : Ent} (hs : hp s = some e) (hfz : e.fz = false) (hb : be s (gc s) = some b)
    (hrow : row < e.n) (hcol : col + m ≤ e.size) (him : i.size = m) {c' : EC} {g : Nat → AV} (hu : EC.isUpd e.c c' row col m g e.n e.size) {v : Value}
    (hv : Reads be gc (own O be ⟨fr, hp, gc⟩) w m g v.cells) :
    ∃ w', (storeVar t ⟨b, row * e.size + col, none⟩ v).run P w = .ok () w' ∧ Rel O W N ⟨fr, setH hp s { e with c := c' }, gc⟩ a w' be := by
  rcases h.ent s e hs with ⟨h0, _⟩ | ⟨b', cs, el, fz, h1, h2, h3, h4⟩
  · rw [hb] at h0; exact absurd h0 (by simp)
  · rw [hb] at h1
    obtain rfl := Option.some.inj h1
    have hlen : v.cells.toList.length = m := by simpa using hv.1
    have hone : ∀ u ∈ v.cells.toList, u.oneCell' = true := fun u hu => by
      obtain ⟨j, hj, rfl⟩ := List.getElem_of_mem hu
      obtain ⟨u', hu', h1, _⟩ := hv.2 j (by omega)
      have : u' = v.cells.toList[j] := by
        have : v.cells.toList[j]? = some u' := by simpa using hu'
        rw [List.getElem?_eq_getElem hj] at this
        exact (Option.some.inj this).symm
      rw [← this]; exact h1
    have hfit : row * e.size + col + m ≤ cs.size := by
      have h5 := h4.fit
      have : (row + 1) * e.size ≤ e.n * e.size := Nat.mul_le_mul_right _ hrow
      rw [Nat.add_mul, Nat.one_mul] at this
      omega
    obtain ⟨w', cs', hr, hh, hsz, hm, ho, e1, e2, e3, e4⟩ := run_storeCells_list (P := P) (b := b) (o := row * e.size + col) v.cells.toList 0 cs w h3 (by omega) h4.clean hone
    have hrow' := h4.upd hu hlen hrow hcol hsz (fun k => by have := hm k; simp only [Nat.add_zero, hlen] at this; exact this) hone (fun j hj => by
      obtain ⟨u, hu, _, hr⟩ := hv.2 j hj
      exact ⟨u, by simpa using hu, hr⟩)
    refine ⟨w', ?_, h.write hs hfz hb ho e1 e2 e3 e4 h3 hh hsz hfz hrow'⟩
    unfold storeVar
    simp only [Sem.run_bind, run_sizeOf hi, Result.andThen_ok]
    rw [if_neg (by simp; rw [hv.1, him])]
    simp only [Sem.run_pure, Result.andThen_ok, hr]

end
end Lk
