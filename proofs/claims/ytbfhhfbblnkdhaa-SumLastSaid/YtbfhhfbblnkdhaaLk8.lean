/-
  The abstract machine, part 8: how the relation to memory is kept: a slot is put, blocks are new, a block is written, a block is frozen.
-/
import Derived.Test.YtbfhhfbblnkdhaaLk7
namespace Lk
open Go Go.RowKit

theorem setF_same (fr : Nat → AV) (d : Nat) (v : AV) : setF fr d v d = v := by
  simp [setF]
theorem setF_ne (fr : Nat → AV) {d k : Nat} (v : AV) (h : k ≠ d) : setF fr d v k = fr k := by
  have : Nat.beq k d = false := by
    cases hb : Nat.beq k d with
    | false => rfl
    | true => exact absurd (beqN hb) h
  simp [setF, this]
theorem setH_same (hp : Nat → Option Ent) (s : Nat) (e : Ent) : setH hp s e s = some e := by simp [setH]
theorem beq_ne {k d : Nat} (h : k ≠ d) : Nat.beq k d = false := by
  cases hb : Nat.beq k d with
  | false => rfl
  | true => exact absurd (beqN hb) h
theorem setH_ne (hp : Nat → Option Ent) {s k : Nat} (e : Ent) (h : k ≠ s) : setH hp s e k = hp k := by simp [setH, beq_ne h]
theorem bump_same (gc : Nat → Nat) (s : Nat) : bump gc s s = gc s + 1 := by simp [bump]
theorem bump_ne (gc : Nat → Nat) {s k : Nat} (h : k ≠ s) : bump gc s k = gc k := by simp [bump, beq_ne h]

section
variable {O : Nat → Prop} {W : World} {N : Nat} {fr : Nat → AV} {hp : Nat → Option Ent} {gc : Nat → Nat} {a : Act} {w w' : World} {be : Nm}

/-- A slot is put. -/
theorem Rel.put (h : Rel O W N ⟨fr, hp, gc⟩ a w be) {d : Nat} (hd : d < N) {v : AV} {u : Value} (hv : RA be gc (own O be ⟨fr, hp, gc⟩) w v u) :
    Rel O W N ⟨setF fr d v, hp, gc⟩ (a.put (some d) u) w be := by
  refine ⟨by simpa [Act.put] using h.size, h.defers, h.below, h.outer, h.names, fun k => ?_, h.ent, h.dist⟩
  by_cases hk : k = d
  · subst hk
    rw [show (St.fr ⟨setF fr k v, hp, gc⟩ k) = v from setF_same ..]
    have : (a.put (some k) u).tmps.getD k Go.undef = u := by
      have hs := h.size
      simp [Act.put, Array.getD_eq_getD_getElem?, hs, hd]
    rw [this]
    exact hv
  · rw [show (St.fr ⟨setF fr d v, hp, gc⟩ k) = fr k from setF_ne _ _ hk]
    have : (a.put (some d) u).tmps.getD k Go.undef = a.tmps.getD k Go.undef := by
      have hk' : d ≠ k := fun e => hk e.symm
      simp only [Act.put, Array.getD_eq_getD_getElem?]
      rw [Array.getElem?_setIfInBounds_ne hk']
    rw [this]
    exact h.slot k

/-- Nothing is put: the slots say the same of the same. -/
theorem Rel.nop (h : Rel O W N ⟨fr, hp, gc⟩ a w be) (u : Value) : Rel O W N ⟨fr, hp, gc⟩ (a.put none u) w be := h

/-- Slots move with what is kept. -/
theorem Rel.slots (h : Rel O W N ⟨fr, hp, gc⟩ a w be) {be' : Nm} {gc' : Nat → Nat} {O' : Nat → Prop} (k : Keeps be gc (own O be ⟨fr, hp, gc⟩) w be' gc' O' w') :
    ∀ i, RA be' gc' O' w' (fr i) (a.tmps.getD i Go.undef) := fun i => k.ra _ (h.slot i)

/-! new blocks -/

theorem putH_not {l : List (Nat × Ent)} : ∀ {hp : Nat → Option Ent} {s : Nat}, s ∉ sitesOf l → putH l hp s = hp s := by
  induction l with
  | nil => intro hp s _; rfl
  | cons x l ih =>
    intro hp s hs
    simp only [sitesOf, List.mem_cons, not_or] at hs
    rw [putH, ih hs.2, setH_ne _ _ hs.1]
theorem putH_mem {l : List (Nat × Ent)} : ∀ {hp : Nat → Option Ent} {s : Nat} {e : Ent}, (sitesOf l).Nodup → (s, e) ∈ l → putH l hp s = some e := by
  induction l with
  | nil => intro hp s e _ h; exact absurd h (by simp)
  | cons x l ih =>
    intro hp s e hn h
    obtain ⟨s', e'⟩ := x
    simp only [sitesOf, List.nodup_cons] at hn
    rw [putH]
    rcases List.mem_cons.1 h with h | h
    · simp only [Prod.mk.injEq] at h
      obtain ⟨rfl, rfl⟩ := h
      rw [putH_not hn.1, setH_same]
    · exact ih hn.2 h
theorem putG_not {l : List Nat} : ∀ {gc : Nat → Nat} {s : Nat}, s ∉ l → putG l gc s = gc s := by
  induction l with
  | nil => intro gc s _; rfl
  | cons x l ih =>
    intro gc s hs
    simp only [List.mem_cons, not_or] at hs
    rw [putG, ih hs.2, bump_ne _ hs.1]
theorem putG_mem {l : List Nat} : ∀ {gc : Nat → Nat} {s : Nat}, l.Nodup → s ∈ l → putG l gc s = gc s + 1 := by
  induction l with
  | nil => intro gc s _ h; exact absurd h (by simp)
  | cons x l ih =>
    intro gc s hn h
    simp only [List.nodup_cons] at hn
    rw [putG]
    rcases List.mem_cons.1 h with h | h
    · subst h; rw [putG_not hn.1, bump_same]
    · rw [ih hn.2 h]
      have : s ≠ x := fun e => hn.1 (e ▸ h)
      rw [bump_ne _ this]
theorem sites_mem {l : List (Nat × Ent)} {s : Nat} : s ∈ sitesOf l ↔ ∃ e, (s, e) ∈ l := by
  induction l with
  | nil => simp [sitesOf]
  | cons x l ih =>
    obtain ⟨s', e'⟩ := x
    simp only [sitesOf, List.mem_cons, ih, Prod.mk.injEq]
    constructor
    · rintro (h | ⟨e, h⟩)
      · exact ⟨e', .inl ⟨h, rfl⟩⟩
      · exact ⟨e, .inr h⟩
    · rintro ⟨e, ⟨h, _⟩ | h⟩
      · exact .inl h
      · exact .inr ⟨e, h⟩

/-- The names, some sites named anew. -/
def nmU (be : Nm) (gc : Nat → Nat) (l : List (Nat × Ent)) (nn : Nat → Option Nat) : Nm :=
  fun s q => open Classical in if s ∈ sitesOf l ∧ q = gc s + 1 then nn s else be s q

theorem nmU_old {l : List (Nat × Ent)} {nn : Nat → Option Nat} {s q : Nat} (hq : q ≤ gc s) : nmU be gc l nn s q = be s q := by
  unfold nmU; rw [if_neg (by omega)]
theorem nmU_new {l : List (Nat × Ent)} {nn : Nat → Option Nat} {s : Nat} (h : s ∈ sitesOf l) : nmU be gc l nn s (gc s + 1) = nn s := by
  unfold nmU; rw [if_pos ⟨h, rfl⟩]

/-- What is said of the new blocks. -/
structure News (w w' : World) (l : List (Nat × Ent)) (nn : Nat → Option Nat) : Prop where
  nodup : (sitesOf l).Nodup
  below : Below w.heap.size w w'
  fresh : ∀ s, s ∈ sitesOf l → ∀ b, nn s = some b → w.heap.size ≤ b ∧ b < w'.heap.size
  apart : ∀ s s', s ∈ sitesOf l → s' ∈ sitesOf l → ∀ b, nn s = some b → nn s' = some b → s = s'

theorem own_news (h : Rel O W N ⟨fr, hp, gc⟩ a w be) {l : List (Nat × Ent)} {nn : Nat → Option Nat} (hn : News w w' l nn) {b : Nat}
    (hb : own O (nmU be gc l nn) ⟨fr, putH l hp, putG (sitesOf l) gc⟩ b) : own O be ⟨fr, hp, gc⟩ b ∨ ∃ s e, (s, e) ∈ l ∧ e.fz = false ∧ nn s = some b := by
  rcases hb with hb | ⟨s, e, h1, h2, h3⟩
  · exact .inl (.inl hb)
  · simp only at h1 h3
    by_cases hs : s ∈ sitesOf l
    · obtain ⟨e', he'⟩ := sites_mem.1 hs
      rw [putH_mem hn.nodup he'] at h1
      obtain rfl := Option.some.inj h1
      rw [putG_mem hn.nodup hs, nmU_new hs] at h3
      exact .inr ⟨s, e', he', h2, h3⟩
    · rw [putH_not hs] at h1
      rw [putG_not hs, nmU_old (Nat.le_refl _)] at h3
      exact .inl (.inr ⟨s, e, h1, h2, h3⟩)

theorem keeps_news (h : Rel O W N ⟨fr, hp, gc⟩ a w be) {l : List (Nat × Ent)} {nn : Nat → Option Nat} (hn : News w w' l nn) :
    Keeps be gc (own O be ⟨fr, hp, gc⟩) w (nmU be gc l nn) (putG (sitesOf l) gc) (own O (nmU be gc l nn) ⟨fr, putH l hp, putG (sitesOf l) gc⟩) w' := by
  refine ⟨fun s => ?_, fun s q hq => nmU_old hq, fun b hb ho => ?_, (Keeps.grown (be := be) (ga := gc) (O := own O be ⟨fr, hp, gc⟩) hn.below).cell, (Keeps.grown (be := be) (ga := gc) (O := own O be ⟨fr, hp, gc⟩) hn.below).shape⟩
  · by_cases hs : s ∈ sitesOf l
    · rw [putG_mem hn.nodup hs]; omega
    · rw [putG_not hs]; exact Nat.le_refl _
  · rcases own_news h hn ho with h' | ⟨s, e, hse, _, hs⟩
    · exact h'
    · have := (hn.fresh s (sites_mem.2 ⟨e, hse⟩) b hs).1
      omega

/-- Blocks are new. -/
theorem Rel.news (h : Rel O W N ⟨fr, hp, gc⟩ a w be) {l : List (Nat × Ent)} {nn : Nat → Option Nat} (hn : News w w' l nn)
    (hent : ∀ s e, (s, e) ∈ l → (nn s = none ∧ e.n = 0) ∨ ∃ b cs el fz, nn s = some b ∧ w'.heap[b]? = some (.cells cs el fz) ∧
      Row (nmU be gc l nn) (putG (sitesOf l) gc) (own O (nmU be gc l nn) ⟨fr, putH l hp, putG (sitesOf l) gc⟩) w' e cs fz) :
    Rel O W N ⟨fr, putH l hp, putG (sitesOf l) gc⟩ a w' (nmU be gc l nn) := by
  have k := keeps_news h hn
  have hWw : W.heap.size ≤ w.heap.size := h.below.size
  refine ⟨h.size, h.defers, h.below.trans (hn.below.mono hWw), h.outer, fun s q b hb => ?_, h.slots k, fun s e he => ?_, fun s s' e e' b h1 h2 h3 h4 h5 => ?_⟩
  · unfold nmU at hb
    split at hb
    · rename_i hc; exact (hn.fresh s hc.1 b hb).2
    · exact Nat.lt_of_lt_of_le (h.names s q b hb) hn.below.size
  · simp only at he
    by_cases hs : s ∈ sitesOf l
    · obtain ⟨e', he'⟩ := sites_mem.1 hs
      rw [putH_mem hn.nodup he'] at he
      obtain rfl := Option.some.inj he
      unfold EntOk
      simp only [putG_mem hn.nodup hs, nmU_new hs]
      rcases hent s e' he' with h' | ⟨b, cs, el, fz, h1, h2, h3⟩
      · exact .inl h'
      · exact .inr ⟨b, cs, el, fz, h1, Nat.le_trans hWw (hn.fresh s hs b h1).1, h2, h3⟩
    · rw [putH_not hs] at he
      exact (h.ent s e he).keep k (putG_not hs) (fun b hb _ => hn.below.block b (h.names s _ b hb))
  · simp only at h1 h2 h3 h4
    by_cases hs : s ∈ sitesOf l
    · rw [putG_mem hn.nodup hs, nmU_new hs] at h3
      by_cases hs' : s' ∈ sitesOf l
      · rw [putG_mem hn.nodup hs', nmU_new hs'] at h4
        exact hn.apart s s' hs hs' b h3 h4
      · rw [putG_not hs', nmU_old (Nat.le_refl _)] at h4
        have := (hn.fresh s hs b h3).1
        have := h.names _ _ _ h4
        omega
    · rw [putG_not hs, nmU_old (Nat.le_refl _)] at h3
      rw [putH_not hs] at h1
      by_cases hs' : s' ∈ sitesOf l
      · rw [putG_mem hn.nodup hs', nmU_new hs'] at h4
        have := (hn.fresh s' hs' b h4).1
        have := h.names _ _ _ h3
        omega
      · rw [putG_not hs', nmU_old (Nat.le_refl _)] at h4
        rw [putH_not hs'] at h2
        exact h.dist s s' e e' b h1 h2 h3 h4 h5

/-- One block is new. -/
theorem Rel.new1 (h : Rel O W N ⟨fr, hp, gc⟩ a w be) {d b : Nat} {e : Ent} {cs : Array Value} {el : TypeId} {fz : Nat × Nat} (hb : Below w.heap.size w w') (hf : w.heap.size ≤ b) (hh : w'.heap[b]? = some (.cells cs el fz))
    (hr : Row be gc (own O be ⟨fr, hp, gc⟩) w e cs fz) :
    ∃ be', Rel O W N ⟨fr, setH hp d e, bump gc d⟩ a w' be' ∧ be' d (gc d + 1) = some b ∧
      Keeps be gc (own O be ⟨fr, hp, gc⟩) w be' (bump gc d) (own O be' ⟨fr, setH hp d e, bump gc d⟩) w' := by
  have hn : News w w' [(d, e)] (fun _ => some b) := ⟨by simp [sitesOf], hb, fun s hs b' hb' => by
    obtain rfl := Option.some.inj hb'
    exact ⟨hf, heap_lt hh⟩, fun s s' hs hs' _ _ _ => by
    simp [sitesOf] at hs hs'
    omega⟩
  have k := keeps_news h hn
  refine ⟨nmU be gc [(d, e)] (fun _ => some b), h.news hn (fun s e' he' => ?_), nmU_new (by simp [sitesOf]), k⟩
  simp only [List.mem_singleton, Prod.mk.injEq] at he'
  obtain ⟨rfl, rfl⟩ := he'
  exact .inr ⟨b, cs, el, fz, rfl, hh, hr.keep k⟩

/-! a block is written -/

/-- The own block of an entry that may be written holds other cells. -/
theorem Rel.write (h : Rel O W N ⟨fr, hp, gc⟩ a w be) {s b : Nat} {e e' : Ent} (hs : hp s = some e) (hfz : e.fz = false) (hb : be s (gc s) = some b)
    (hsame : ∀ k, k ≠ b → w'.heap[k]? = w.heap[k]?) (hos : w'.os = w.os) (htape : w'.tape = w.tape) (hout : w'.output = w.output) (hsz : w'.heap.size = w.heap.size)
    {cs cs' : Array Value} {el : TypeId} {fz : Nat × Nat} (hw : w.heap[b]? = some (.cells cs el fz)) (hw' : w'.heap[b]? = some (.cells cs' el fz)) (hcs : cs'.size = cs.size) (hfz' : e'.fz = false)
    (hrow : Row be gc (own O be ⟨fr, hp, gc⟩) w e' cs' fz) :
    Rel O W N ⟨fr, setH hp s e', gc⟩ a w' be := by
  have hB : W.heap.size ≤ b := by
    rcases h.ent s e hs with ⟨h0, _⟩ | ⟨b', _, _, _, h1, h2, _⟩
    · rw [hb] at h0; exact absurd h0 (by simp)
    · rw [hb] at h1; rw [Option.some.inj h1]; exact h2
  have hown : own O be ⟨fr, hp, gc⟩ b := .inr ⟨s, e, hs, hfz, hb⟩
  have k : Keeps be gc (own O be ⟨fr, hp, gc⟩) w be gc (own O be ⟨fr, setH hp s e', gc⟩) w' := by
    refine ⟨fun _ => Nat.le_refl _, fun _ _ _ => rfl, fun b' _ ho => ?_, fun b' o u hno hu => ?_, fun b' cs0 el0 fz0 h0 => ?_⟩
    · rcases ho with ho | ⟨s', e'', h1, h2, h3⟩
      · exact .inl ho
      · by_cases hss : s' = s
        · subst hss
          exact .inr ⟨s', e, hs, hfz, h3⟩
        · simp only [setH_ne _ _ hss] at h1
          exact .inr ⟨s', e'', h1, h2, h3⟩
    · have hne : b' ≠ b := fun e => hno (e ▸ hown)
      rw [World.cell?_of_block (w := w) (w' := w') (hsame b' hne)]
      exact hu
    · by_cases hbb : b' = b
      · subst hbb
        rw [hw] at h0
        obtain ⟨rfl, rfl, rfl⟩ : cs = cs0 ∧ el = el0 ∧ fz = fz0 := by simpa using h0
        exact ⟨cs', el, fz, hw', hcs⟩
      · exact ⟨cs0, el0, fz0, (hsame b' hbb).trans h0, rfl⟩
  refine ⟨h.size, h.defers, h.below.trans ⟨hos, htape, hout, by omega, fun k hk => hsame k (by omega)⟩, h.outer, fun s q b' hb' => by rw [hsz]; exact h.names s q b' hb', h.slots k, fun s1 e1 he1 => ?_, fun s1 s2 e1 e2 b' h1 h2 h3 h4 h5 => ?_⟩
  · simp only at he1
    by_cases hss : s1 = s
    · subst hss
      rw [setH_same] at he1
      obtain rfl := Option.some.inj he1
      exact .inr ⟨b, cs', el, fz, hb, hB, hw', hrow.keep k⟩
    · rw [setH_ne _ _ hss] at he1
      refine (h.ent s1 e1 he1).keep k rfl (fun b' hb' _ => hsame b' fun e => ?_)
      subst e
      exact hss (h.dist s s1 e e1 b' hs he1 hb hb' hfz).symm
  · simp only at h1 h2 h3 h4
    by_cases hs1 : s1 = s
    · subst hs1
      by_cases hs2 : s2 = s1
      · exact hs2.symm
      · rw [setH_ne _ _ hs2] at h2
        exact h.dist s1 s2 e e2 b' hs h2 h3 h4 hfz
    · rw [setH_ne _ _ hs1] at h1
      by_cases hs2 : s2 = s
      · subst hs2
        exact h.dist s1 s2 e1 e b' h1 hs h3 h4 h5
      · rw [setH_ne _ _ hs2] at h2
        exact h.dist s1 s2 e1 e2 b' h1 h2 h3 h4 h5

/-! a block is frozen -/

theorem keeps_freeze {s : Nat} {e : Ent} (hs : hp s = some e) : Keeps be gc (own O be ⟨fr, hp, gc⟩) w be gc (own O be ⟨fr, setH hp s { e with fz := true }, gc⟩) w := by
  refine Keeps.less fun b ho => ?_
  rcases ho with ho | ⟨s', e', h1, h2, h3⟩
  · exact .inl ho
  · by_cases hss : s' = s
    · subst hss
      simp only [setH_same] at h1
      obtain rfl := Option.some.inj h1
      exact absurd h2 (by simp)
    · simp only [setH_ne _ _ hss] at h1
      exact .inr ⟨s', e', h1, h2, h3⟩

theorem Rel.freeze (h : Rel O W N ⟨fr, hp, gc⟩ a w be) {s : Nat} {e : Ent} (hs : hp s = some e) : Rel O W N ⟨fr, setH hp s { e with fz := true }, gc⟩ a w be := by
  have k := keeps_freeze (O := O) (fr := fr) (gc := gc) (be := be) (w := w) hs
  refine ⟨h.size, h.defers, h.below, h.outer, h.names, h.slots k, fun s1 e1 he1 => ?_, fun s1 s2 e1 e2 b' h1 h2 h3 h4 h5 => ?_⟩
  · simp only at he1
    by_cases hss : s1 = s
    · subst hss
      rw [setH_same] at he1
      obtain rfl := Option.some.inj he1
      rcases h.ent s1 e hs with h' | ⟨b, cs, el, fz, h1, h2, h3, h4⟩
      · exact .inl h'
      · exact .inr ⟨b, cs, el, fz, h1, h2, h3, ⟨(h4.keep k).fit, h4.clean, h4.plain, h4.one, (h4.keep k).cont⟩⟩
    · rw [setH_ne _ _ hss] at he1
      exact (h.ent s1 e1 he1).keep k rfl (fun _ _ _ => rfl)
  · simp only at h1 h2 h3 h4
    have back : ∀ (s' : Nat) (x : Ent), setH hp s { e with fz := true } s' = some x → ∃ x', hp s' = some x' ∧ (x.fz = false → x'.fz = false) := by
      intro s' x hx
      by_cases hss : s' = s
      · subst hss
        rw [setH_same] at hx
        obtain rfl := Option.some.inj hx
        exact ⟨e, hs, fun h => absurd h (by simp)⟩
      · rw [setH_ne _ _ hss] at hx
        exact ⟨x, hx, id⟩
    obtain ⟨x1, hx1, hf1⟩ := back s1 e1 h1
    obtain ⟨x2, hx2, _⟩ := back s2 e2 h2
    exact h.dist s1 s2 x1 x2 b' hx1 hx2 h3 h4 (hf1 h5)

/-- The world grows by itself. -/
theorem Rel.grow (h : Rel O W N ⟨fr, hp, gc⟩ a w be) (hb : Below w.heap.size w w') : Rel O W N ⟨fr, hp, gc⟩ a w' be := by
  have k := Keeps.grown (be := be) (ga := gc) (O := own O be ⟨fr, hp, gc⟩) hb
  exact ⟨h.size, h.defers, h.below.trans (hb.mono h.below.size), h.outer, fun s q b hb' => Nat.lt_of_lt_of_le (h.names s q b hb') hb.size, h.slots k,
    fun s e he => (h.ent s e he).keep k rfl (fun b hb' _ => hb.block b (h.names s _ b hb')), h.dist⟩

end
end Lk
