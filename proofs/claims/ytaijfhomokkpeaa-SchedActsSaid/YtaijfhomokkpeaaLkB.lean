/-
  LkB: what these chapters need.
-/
import Derived.Test.YtaijfhomokkpeaaLkA
import Derived.Laws.IdiomStrings
set_option linter.unusedSimpArgs false
set_option maxHeartbeats 8000000
set_option maxRecDepth 100000
set_option linter.unusedVariables false
namespace Lk
open Go Go.RowKit
theorem setF_same (fr : Nat → AV) (d : Nat) (v : AV) : setF fr d v d = v := by
  simp [setF]
theorem setF_ne (fr : Nat → AV) {d k : Nat} (v : AV) (h : k ≠ d) : setF fr d v k = fr k := by
  have : Nat.beq k d = false := by
    cases hb : Nat.beq k d with
    | false => rfl
    | true => exact absurd (beqN hb) h
  simp [setF, this]
theorem setH_same (hp : Nat → Option Ent) (s : Nat) (e : Ent) : setH hp s e s = some e := by simp [setH]
theorem beq_ne {k d : Nat} (h : k ≠ d) : Nat.beq k d = false := by
  cases hb : Nat.beq k d with
  | false => rfl
  | true => exact absurd (beqN hb) h
theorem setH_ne (hp : Nat → Option Ent) {s k : Nat} (e : Ent) (h : k ≠ s) : setH hp s e k = hp k := by simp [setH, beq_ne h]
theorem bump_same (gc : Nat → Nat) (s : Nat) : bump gc s s = gc s + 1 := by simp [bump]
theorem bump_ne (gc : Nat → Nat) {s k : Nat} (h : k ≠ s) : bump gc s k = gc k := by simp [bump, beq_ne h]
section
variable {O : Nat → Prop} {W : World} {N : Nat} {fr : Nat → AV} {hp : Nat → Option Ent} {gc : Nat → Nat} {a : Act} {w w' : World} {be : Nm}
theorem Rel.put (h : Rel O W N ⟨fr, hp, gc⟩ a w be) {d : Nat} (hd : d < N) {v : AV} {u : Value} (hv : RA be gc (own O be ⟨fr, hp, gc⟩) w v u) :
    Rel O W N ⟨setF fr d v, hp, gc⟩ (a.put (some d) u) w be := by
  refine ⟨by simpa [Act.put] using h.size, h.defers, h.below, h.outer, h.names, fun k => ?_, h.ent, h.dist⟩
  by_cases hk : k = d
  · subst hk
    rw [show (St.fr ⟨setF fr k v, hp, gc⟩ k) = v from setF_same ..]
    have : (a.put (some k) u).tmps.getD k Go.undef = u := by
      have hs := h.size
      simp [Act.put, Array.getD_eq_getD_getElem?, hs, hd]
    rw [this]
    exact hv
  · rw [show (St.fr ⟨setF fr d v, hp, gc⟩ k) = fr k from setF_ne _ _ hk]
    have : (a.put (some d) u).tmps.getD k Go.undef = a.tmps.getD k Go.undef := by
      have hk' : d ≠ k := fun e => hk e.symm
      simp only [Act.put, Array.getD_eq_getD_getElem?]
      rw [Array.getElem?_setIfInBounds_ne hk']
    rw [this]
    exact h.slot k
theorem Rel.slots (h : Rel O W N ⟨fr, hp, gc⟩ a w be) {be' : Nm} {gc' : Nat → Nat} {O' : Nat → Prop} (k : Keeps be gc (own O be ⟨fr, hp, gc⟩) w be' gc' O' w') :
    ∀ i, RA be' gc' O' w' (fr i) (a.tmps.getD i Go.undef) := fun i => k.ra _ (h.slot i)
/-! new blocks -/

theorem putH_not {l : List (Nat × Ent)} : ∀ {hp : Nat → Option Ent} {s : Nat}, s ∉ sitesOf l → putH l hp s = hp s := by
  induction l with
  | nil => intro hp s _; rfl
  | cons x l ih =>
    intro hp s hs
    simp only [sitesOf, List.mem_cons, not_or] at hs
    rw [putH, ih hs.2, setH_ne _ _ hs.1]
theorem putH_mem {l : List (Nat × Ent)} : ∀ {hp : Nat → Option Ent} {s : Nat} {e : Ent}, (sitesOf l).Nodup → (s, e) ∈ l → putH l hp s = some e := by
  induction l with
  | nil => intro hp s e _ h; exact absurd h (by simp)
  | cons x l ih =>
    intro hp s e hn h
    obtain ⟨s', e'⟩ := x
    simp only [sitesOf, List.nodup_cons] at hn
    rw [putH]
    rcases List.mem_cons.1 h with h | h
    · simp only [Prod.mk.injEq] at h
      obtain ⟨rfl, rfl⟩ := h
      rw [putH_not hn.1, setH_same]
    · exact ih hn.2 h
theorem putG_not {l : List Nat} : ∀ {gc : Nat → Nat} {s : Nat}, s ∉ l → putG l gc s = gc s := by
  induction l with
  | nil => intro gc s _; rfl
  | cons x l ih =>
    intro gc s hs
    simp only [List.mem_cons, not_or] at hs
    rw [putG, ih hs.2, bump_ne _ hs.1]
theorem putG_mem {l : List Nat} : ∀ {gc : Nat → Nat} {s : Nat}, l.Nodup → s ∈ l → putG l gc s = gc s + 1 := by
  induction l with
  | nil => intro gc s _ h; exact absurd h (by simp)
  | cons x l ih =>
    intro gc s hn h
    simp only [List.nodup_cons] at hn
    rw [putG]
    rcases List.mem_cons.1 h with h | h
    · subst h; rw [putG_not hn.1, bump_same]
    · rw [ih hn.2 h]
      have : s ≠ x := fun e => hn.1 (e ▸ h)
      rw [bump_ne _ this]
theorem sites_mem {l : List (Nat × Ent)} {s : Nat} : s ∈ sitesOf l ↔ ∃ e, (s, e) ∈ l := by
  induction l with
  | nil => simp [sitesOf]
  | cons x l ih =>
    obtain ⟨s', e'⟩ := x
    simp only [sitesOf, List.mem_cons, ih, Prod.mk.injEq]
    constructor
    · rintro (h | ⟨e, h⟩)
      · exact ⟨e', .inl ⟨h, rfl⟩⟩
      · exact ⟨e, .inr h⟩
    · rintro ⟨e, ⟨h, _⟩ | h⟩
      · exact .inl h
      · exact .inr ⟨e, h⟩
def nmU (be : Nm) (gc : Nat → Nat) (l : List (Nat × Ent)) (nn : Nat → Option Nat) : Nm :=
  fun s q => open Classical in if s ∈ sitesOf l ∧ q = gc s + 1 then nn s else be s q
theorem nmU_old {l : List (Nat × Ent)} {nn : Nat → Option Nat} {s q : Nat} (hq : q ≤ gc s) : nmU be gc l nn s q = be s q := by
  unfold nmU; rw [if_neg (by omega)]
theorem nmU_new {l : List (Nat × Ent)} {nn : Nat → Option Nat} {s : Nat} (h : s ∈ sitesOf l) : nmU be gc l nn s (gc s + 1) = nn s := by
  unfold nmU; rw [if_pos ⟨h, rfl⟩]
structure News (w w' : World) (l : List (Nat × Ent)) (nn : Nat → Option Nat) : Prop where
  nodup : (sitesOf l).Nodup
  below : Below w.heap.size w w'
  fresh : ∀ s, s ∈ sitesOf l → ∀ b, nn s = some b → w.heap.size ≤ b ∧ b < w'.heap.size
  apart : ∀ s s', s ∈ sitesOf l → s' ∈ sitesOf l → ∀ b, nn s = some b → nn s' = some b → s = s'
theorem own_news (h : Rel O W N ⟨fr, hp, gc⟩ a w be) {l : List (Nat × Ent)} {nn : Nat → Option Nat} (hn : News w w' l nn) {b : Nat}
    (hb : own O (nmU be gc l nn) ⟨fr, putH l hp, putG (sitesOf l) gc⟩ b) : own O be ⟨fr, hp, gc⟩ b ∨ ∃ s e, (s, e) ∈ l ∧ e.fz = false ∧ nn s = some b := by
  rcases hb with hb | ⟨s, e, h1, h2, h3⟩
  · exact .inl (.inl hb)
  · simp only at h1 h3
    by_cases hs : s ∈ sitesOf l
    · obtain ⟨e', he'⟩ := sites_mem.1 hs
      rw [putH_mem hn.nodup he'] at h1
      obtain rfl := Option.some.inj h1
      rw [putG_mem hn.nodup hs, nmU_new hs] at h3
      exact .inr ⟨s, e', he', h2, h3⟩
    · rw [putH_not hs] at h1
      rw [putG_not hs, nmU_old (Nat.le_refl _)] at h3
      exact .inl (.inr ⟨s, e, h1, h2, h3⟩)
theorem keeps_news (h : Rel O W N ⟨fr, hp, gc⟩ a w be) {l : List (Nat × Ent)} {nn : Nat → Option Nat} (hn : News w w' l nn) :
    Keeps be gc (own O be ⟨fr, hp, gc⟩) w (nmU be gc l nn) (putG (sitesOf l) gc) (own O (nmU be gc l nn) ⟨fr, putH l hp, putG (sitesOf l) gc⟩) w' := by
  refine ⟨fun s => ?_, fun s q hq => nmU_old hq, fun b hb ho => ?_, (Keeps.grown (be := be) (ga := gc) (O := own O be ⟨fr, hp, gc⟩) hn.below).cell, (Keeps.grown (be := be) (ga := gc) (O := own O be ⟨fr, hp, gc⟩) hn.below).shape⟩
  · by_cases hs : s ∈ sitesOf l
    · rw [putG_mem hn.nodup hs]; omega
    · rw [putG_not hs]; exact Nat.le_refl _
  · rcases own_news h hn ho with h' | ⟨s, e, hse, _, hs⟩
    · exact h'
    · have := (hn.fresh s (sites_mem.2 ⟨e, hse⟩) b hs).1
      omega
theorem Rel.news (h : Rel O W N ⟨fr, hp, gc⟩ a w be) {l : List (Nat × Ent)} {nn : Nat → Option Nat} (hn : News w w' l nn)
    (hent : ∀ s e, (s, e) ∈ l → (nn s = none ∧ e.n = 0) ∨ ∃ b cs el fz, nn s = some b ∧ w'.heap[b]? = some (.cells cs el fz) ∧
      Row (nmU be gc l nn) (putG (sitesOf l) gc) (own O (nmU be gc l nn) ⟨fr, putH l hp, putG (sitesOf l) gc⟩) w' e cs fz) :
    Rel O W N ⟨fr, putH l hp, putG (sitesOf l) gc⟩ a w' (nmU be gc l nn) := by
  have k := keeps_news h hn
  have hWw : W.heap.size ≤ w.heap.size := h.below.size
  refine ⟨h.size, h.defers, h.below.trans (hn.below.mono hWw), h.outer, fun s q b hb => ?_, h.slots k, fun s e he => ?_, fun s s' e e' b h1 h2 h3 h4 h5 => ?_⟩
  · unfold nmU at hb
    split at hb
    · rename_i hc; exact (hn.fresh s hc.1 b hb).2
    · exact Nat.lt_of_lt_of_le (h.names s q b hb) hn.below.size
  · simp only at he
    by_cases hs : s ∈ sitesOf l
    · obtain ⟨e', he'⟩ := sites_mem.1 hs
      rw [putH_mem hn.nodup he'] at he
      obtain rfl := Option.some.inj he
      unfold EntOk
      simp only [putG_mem hn.nodup hs, nmU_new hs]
      rcases hent s e' he' with h' | ⟨b, cs, el, fz, h1, h2, h3⟩
      · exact .inl h'
      · exact .inr ⟨b, cs, el, fz, h1, Nat.le_trans hWw (hn.fresh s hs b h1).1, h2, h3⟩
    · rw [putH_not hs] at he
      exact (h.ent s e he).keep k (putG_not hs) (fun b hb _ => hn.below.block b (h.names s _ b hb))
  · simp only at h1 h2 h3 h4
    by_cases hs : s ∈ sitesOf l
    · rw [putG_mem hn.nodup hs, nmU_new hs] at h3
      by_cases hs' : s' ∈ sitesOf l
      · rw [putG_mem hn.nodup hs', nmU_new hs'] at h4
        exact hn.apart s s' hs hs' b h3 h4
      · rw [putG_not hs', nmU_old (Nat.le_refl _)] at h4
        have := (hn.fresh s hs b h3).1
        have := h.names _ _ _ h4
        omega
    · rw [putG_not hs, nmU_old (Nat.le_refl _)] at h3
      rw [putH_not hs] at h1
      by_cases hs' : s' ∈ sitesOf l
      · rw [putG_mem hn.nodup hs', nmU_new hs'] at h4
        have := (hn.fresh s' hs' b h4).1
        have := h.names _ _ _ h3
        omega
      · rw [putG_not hs', nmU_old (Nat.le_refl _)] at h4
        rw [putH_not hs'] at h2
        exact h.dist s s' e e' b h1 h2 h3 h4 h5
theorem Rel.new1 (h : Rel O W N ⟨fr, hp, gc⟩ a w be) {d b : Nat} {e : Ent} {cs : Array Value} {el : TypeId} {fz : Nat × Nat} (hb : Below w.heap.size w w') (hf : w.heap.size ≤ b) (hh : w'.heap[b]? = some (.cells cs el fz))
    (hr : Row be gc (own O be ⟨fr, hp, gc⟩) w e cs fz) :
    ∃ be', Rel O W N ⟨fr, setH hp d e, bump gc d⟩ a w' be' ∧ be' d (gc d + 1) = some b ∧
      Keeps be gc (own O be ⟨fr, hp, gc⟩) w be' (bump gc d) (own O be' ⟨fr, setH hp d e, bump gc d⟩) w' := by
  have hn : News w w' [(d, e)] (fun _ => some b) := ⟨by simp [sitesOf], hb, fun s hs b' hb' => by
    obtain rfl := Option.some.inj hb'
    exact ⟨hf, heap_lt hh⟩, fun s s' hs hs' _ _ _ => by
    simp [sitesOf] at hs hs'
    omega⟩
  have k := keeps_news h hn
  refine ⟨nmU be gc [(d, e)] (fun _ => some b), h.news hn (fun s e' he' => ?_), nmU_new (by simp [sitesOf]), k⟩
  simp only [List.mem_singleton, Prod.mk.injEq] at he'
  obtain ⟨rfl, rfl⟩ := he'
  exact .inr ⟨b, cs, el, fz, rfl, hh, hr.keep k⟩
/-! a block is written -/

theorem Rel.write (h : Rel O W N ⟨fr, hp, gc⟩ a w be) {s b : Nat} {e e' : Ent} (hs : hp s = some e) (hfz : e.fz = false) (hb : be s (gc s) = some b)
    (hsame : ∀ k, k ≠ b → w'.heap[k]? = w.heap[k]?) (hos : w'.os = w.os) (htape : w'.tape = w.tape) (hout : w'.output = w.output) (hsz : w'.heap.size = w.heap.size)
    {cs cs' : Array Value} {el : TypeId} {fz : Nat × Nat} (hw : w.heap[b]? = some (.cells cs el fz)) (hw' : w'.heap[b]? = some (.cells cs' el fz)) (hcs : cs'.size = cs.size) (hfz' : e'.fz = false)
    (hrow : Row be gc (own O be ⟨fr, hp, gc⟩) w e' cs' fz) :
    Rel O W N ⟨fr, setH hp s e', gc⟩ a w' be := by
  have hB : W.heap.size ≤ b := by
    rcases h.ent s e hs with ⟨h0, _⟩ | ⟨b', _, _, _, h1, h2, _⟩
    · rw [hb] at h0; exact absurd h0 (by simp)
    · rw [hb] at h1; rw [Option.some.inj h1]; exact h2
  have hown : own O be ⟨fr, hp, gc⟩ b := .inr ⟨s, e, hs, hfz, hb⟩
  have k : Keeps be gc (own O be ⟨fr, hp, gc⟩) w be gc (own O be ⟨fr, setH hp s e', gc⟩) w' := by
    refine ⟨fun _ => Nat.le_refl _, fun _ _ _ => rfl, fun b' _ ho => ?_, fun b' o u hno hu => ?_, fun b' cs0 el0 fz0 h0 => ?_⟩
    · rcases ho with ho | ⟨s', e'', h1, h2, h3⟩
      · exact .inl ho
      · by_cases hss : s' = s
        · subst hss
          exact .inr ⟨s', e, hs, hfz, h3⟩
        · simp only [setH_ne _ _ hss] at h1
          exact .inr ⟨s', e'', h1, h2, h3⟩
    · have hne : b' ≠ b := fun e => hno (e ▸ hown)
      rw [World.cell?_of_block (w := w) (w' := w') (hsame b' hne)]
      exact hu
    · by_cases hbb : b' = b
      · subst hbb
        rw [hw] at h0
        obtain ⟨rfl, rfl, rfl⟩ : cs = cs0 ∧ el = el0 ∧ fz = fz0 := by simpa using h0
        exact ⟨cs', el, fz, hw', hcs⟩
      · exact ⟨cs0, el0, fz0, (hsame b' hbb).trans h0, rfl⟩
  refine ⟨h.size, h.defers, h.below.trans ⟨hos, htape, hout, by omega, fun k hk => hsame k (by omega)⟩, h.outer, fun s q b' hb' => by rw [hsz]; exact h.names s q b' hb', h.slots k, fun s1 e1 he1 => ?_, fun s1 s2 e1 e2 b' h1 h2 h3 h4 h5 => ?_⟩
  · simp only at he1
    by_cases hss : s1 = s
    · subst hss
      rw [setH_same] at he1
      obtain rfl := Option.some.inj he1
      exact .inr ⟨b, cs', el, fz, hb, hB, hw', hrow.keep k⟩
    · rw [setH_ne _ _ hss] at he1
      refine (h.ent s1 e1 he1).keep k rfl (fun b' hb' _ => hsame b' fun e => ?_)
      subst e
      exact hss (h.dist s s1 e e1 b' hs he1 hb hb' hfz).symm
  · simp only at h1 h2 h3 h4
    by_cases hs1 : s1 = s
    · subst hs1
      by_cases hs2 : s2 = s1
      · exact hs2.symm
      · rw [setH_ne _ _ hs2] at h2
        exact h.dist s1 s2 e e2 b' hs h2 h3 h4 hfz
    · rw [setH_ne _ _ hs1] at h1
      by_cases hs2 : s2 = s
      · subst hs2
        exact h.dist s1 s2 e1 e b' h1 hs h3 h4 h5
      · rw [setH_ne _ _ hs2] at h2
        exact h.dist s1 s2 e1 e2 b' h1 h2 h3 h4 h5
/-! a block is frozen -/

theorem keeps_freeze {s : Nat} {e : Ent} (hs : hp s = some e) : Keeps be gc (own O be ⟨fr, hp, gc⟩) w be gc (own O be ⟨fr, setH hp s { e with fz := true }, gc⟩) w := by
  refine Keeps.less fun b ho => ?_
  rcases ho with ho | ⟨s', e', h1, h2, h3⟩
  · exact .inl ho
  · by_cases hss : s' = s
    · subst hss
      simp only [setH_same] at h1
      obtain rfl := Option.some.inj h1
      exact absurd h2 (by simp)
    · simp only [setH_ne _ _ hss] at h1
      exact .inr ⟨s', e', h1, h2, h3⟩
theorem Rel.freeze (h : Rel O W N ⟨fr, hp, gc⟩ a w be) {s : Nat} {e : Ent} (hs : hp s = some e) : Rel O W N ⟨fr, setH hp s { e with fz := true }, gc⟩ a w be := by
  have k := keeps_freeze (O := O) (fr := fr) (gc := gc) (be := be) (w := w) hs
  refine ⟨h.size, h.defers, h.below, h.outer, h.names, h.slots k, fun s1 e1 he1 => ?_, fun s1 s2 e1 e2 b' h1 h2 h3 h4 h5 => ?_⟩
  · simp only at he1
    by_cases hss : s1 = s
    · subst hss
      rw [setH_same] at he1
      obtain rfl := Option.some.inj he1
      rcases h.ent s1 e hs with h' | ⟨b, cs, el, fz, h1, h2, h3, h4⟩
      · exact .inl h'
      · exact .inr ⟨b, cs, el, fz, h1, h2, h3, ⟨(h4.keep k).fit, h4.clean, h4.plain, h4.one, (h4.keep k).cont⟩⟩
    · rw [setH_ne _ _ hss] at he1
      exact (h.ent s1 e1 he1).keep k rfl (fun _ _ _ => rfl)
  · simp only at h1 h2 h3 h4
    have back : ∀ (s' : Nat) (x : Ent), setH hp s { e with fz := true } s' = some x → ∃ x', hp s' = some x' ∧ (x.fz = false → x'.fz = false) := by
      intro s' x hx
      by_cases hss : s' = s
      · subst hss
        rw [setH_same] at hx
        obtain rfl := Option.some.inj hx
        exact ⟨e, hs, fun h => absurd h (by simp)⟩
      · rw [setH_ne _ _ hss] at hx
        exact ⟨x, hx, id⟩
    obtain ⟨x1, hx1, hf1⟩ := back s1 e1 h1
    obtain ⟨x2, hx2, _⟩ := back s2 e2 h2
    exact h.dist s1 s2 x1 x2 b' hx1 hx2 h3 h4 (hf1 h5)
theorem Rel.grow (h : Rel O W N ⟨fr, hp, gc⟩ a w be) (hb : Below w.heap.size w w') : Rel O W N ⟨fr, hp, gc⟩ a w' be := by
  have k := Keeps.grown (be := be) (ga := gc) (O := own O be ⟨fr, hp, gc⟩) hb
  exact ⟨h.size, h.defers, h.below.trans (hb.mono h.below.size), h.outer, fun s q b hb' => Nat.lt_of_lt_of_le (h.names s q b hb') hb.size, h.slots k,
    fun s e he => (h.ent s e he).keep k rfl (fun b hb' _ => hb.block b (h.names s _ b hb')), h.dist⟩
end
end Lk
namespace Lk
open Go Go.RowKit
section
variable {P : Program} {O : Nat → Prop} {W : World} {N : Nat} {fr : Nat → AV} {gc : Nat → Nat} {a : Act} {w : World} {be : Nm}
structure Fz (O : Nat → Prop) (W : World) (N : Nat) (fr : Nat → AV) (gc : Nat → Nat) (a : Act) (w : World) (be : Nm) (hp hp' : Nat → Option Ent) : Prop where
  rel : Rel O W N ⟨fr, hp, gc⟩ a w be → Rel O W N ⟨fr, hp', gc⟩ a w be
  keeps : Rel O W N ⟨fr, hp, gc⟩ a w be → Keeps be gc (own O be ⟨fr, hp, gc⟩) w be gc (own O be ⟨fr, hp', gc⟩) w
theorem Fz.refl (hp : Nat → Option Ent) : Fz O W N fr gc a w be hp hp := ⟨id, fun _ => Keeps.refl _ _ _ _⟩
theorem Keeps.trans {be0 be1 be2 : Nm} {g0 g1 g2 : Nat → Nat} {O0 O1 O2 : Nat → Prop} {w0 w1 w2 : World} (h : Keeps be0 g0 O0 w0 be1 g1 O1 w1) (k : Keeps be1 g1 O1 w1 be2 g2 O2 w2) (hw : w0.heap.size ≤ w1.heap.size) :
    Keeps be0 g0 O0 w0 be2 g2 O2 w2 :=
  ⟨fun s => Nat.le_trans (h.hga s) (k.hga s), fun s q hq => (k.hbe s q (Nat.le_trans hq (h.hga s))).trans (h.hbe s q hq), fun b hb ho => h.hO b hb (k.hO b (by omega) ho),
   fun b o u hno hu => k.cell b o u (fun ho => hno (h.hO b (World.block_lt_of_cell? _ _ hu) ho)) (h.cell b o u hno hu),
   fun b cs el fz hb => by
    obtain ⟨cs1, el1, fz1, h1, e1⟩ := h.shape b cs el fz hb
    obtain ⟨cs2, el2, fz2, h2, e2⟩ := k.shape b cs1 el1 fz1 h1
    exact ⟨cs2, el2, fz2, h2, e2.trans e1⟩⟩
theorem Fz.trans {hp hp' hp'' : Nat → Option Ent} (h : Fz O W N fr gc a w be hp hp') (k : Fz O W N fr gc a w be hp' hp'') : Fz O W N fr gc a w be hp hp'' :=
  ⟨fun r => k.rel (h.rel r), fun r => (h.keeps r).trans (k.keeps (h.rel r)) (Nat.le_refl _)⟩
theorem putH_append (l m : List (Nat × Ent)) : ∀ (hp : Nat → Option Ent), putH (l ++ m) hp = putH m (putH l hp) := by
  induction l with
  | nil => intro hp; rfl
  | cons x l ih => intro hp; obtain ⟨s, e⟩ := x; exact ih _
theorem isDat_RC {v : AV} {u : Value} (h : isDat v) {ga : Nat → Nat} {Q : Nat → Prop} (hr : RA be ga Q w v u) : RC Q w (cellOf v) u := by
  unfold isDat at h
  split at h
  · exact hr
  · exact .inl ⟨rfl, none, hr⟩
  · exact h.elim
theorem frz_os {hp : Nat → Option Ent} (h : Rel O W N ⟨fr, hp, gc⟩ a w be) {s size off len : Nat} {e : Ent} (hs : hp s = some e) (hsz : e.size = size) (hle : off + len ≤ e.n) {f : Nat → Nat → Cell}
    (hf : ∀ i, i < len → ∀ j, j < size → ∀ u, RA be gc (own O be ⟨fr, hp, gc⟩) w (e.c.at (off + i) j) u → RC (own O be ⟨fr, hp, gc⟩) w (f i j) u) {u : Value} (hu : RA be gc (own O be ⟨fr, hp, gc⟩) w (.os s (gc s) size off len) u) :
    RC (own O be ⟨fr, setH hp s { e with fz := true }, gc⟩) w (.sl size len f) u := by
  have k := keeps_freeze (O := O) (fr := fr) (gc := gc) (be := be) (w := w) hs
  rcases hu.2 with ⟨_, _, rfl, rfl⟩ | ⟨b, oo, cap, cs, el, fz, hb, rfl, hc1, hc2, hc3, hh, hc4⟩
  · exact .inl ⟨rfl, none, rfl⟩
  · refine .inr ⟨b, oo, cap, rfl, hc1, hc2, fun i hi j hj => ?_⟩
    obtain ⟨u, hu, _, hr⟩ := ent_at h.ent hs hb (row := off + i) (col := j) (by omega) (by omega)
    refine ⟨fun ho => ?_, u, ?_, k.rc (hf i hi j hj u hr)⟩
    · rcases ho with ho | ⟨s', e', h1, h2, h3⟩
      · have h4 := h.outer b ho
        rcases h.ent s e hs with ⟨h0, _⟩ | ⟨b', _, _, _, h5, h6, _⟩
        · rw [show be s (gc s) = some b from hb] at h0; exact absurd h0 (by simp)
        · rw [show be s (gc s) = some b from hb] at h5
          obtain rfl := Option.some.inj h5
          omega
      · by_cases hss : s' = s
        · subst hss
          simp only [setH_same] at h1
          obtain rfl := Option.some.inj h1
          exact absurd h2 (by simp)
        · simp only [setH_ne _ _ hss] at h1 h3
          exact hss (h.dist s' s e' e b h1 hs h3 hb h2)
    · rw [hsz, Nat.add_mul] at hu
      rw [hc3 (by omega)]
      exact hu
theorem frzC_run {hp : Nat → Option Ent} {v : AV} {L : Cell × List (Nat × Ent) → Prop} (h : (frzC hp gc v).run L) :
    ∃ x hs, L (x, hs) ∧ ∀ {O W N fr a w be}, Fz O W N fr gc a w be hp (putH hs hp) ∧ (Rel O W N ⟨fr, hp, gc⟩ a w be → ∀ u, RA be gc (own O be ⟨fr, hp, gc⟩) w v u → RC (own O be ⟨fr, putH hs hp, gc⟩) w x u) := by
  rw [frzC_eq] at h
  unfold frzC0 at h
  split at h
  · exact ⟨_, _, h, fun {_ _ _ _ _ _ _} => ⟨Fz.refl _, fun _ u hu => hu⟩⟩
  · exact ⟨_, _, h, fun {_ _ _ _ _ _ _} => ⟨Fz.refl _, fun _ u hu => .inl ⟨rfl, none, hu⟩⟩⟩
  · rename_i s q size off len
    replace h := getE_run h
    obtain ⟨rfl, e, hs, h⟩ := h
    rw [M.run_iff', M.run_need] at h
    obtain ⟨hz, hle, h⟩ := h
    have hz := beqN hz
    split at h
    · rename_i c hc
      refine ⟨_, _, h, fun {_ _ _ _ _ _ _} => ⟨⟨fun r => r.freeze hs, fun r => keeps_freeze hs⟩, fun r u hu => frz_os r hs hz hle (fun i hi j hj u hu => by rw [hc] at hu; exact hu) hu⟩⟩
    · rename_i c hc
      refine ⟨_, _, h.r, fun {_ _ _ _ _ _ _} => ⟨⟨fun r => r.freeze hs, fun r => keeps_freeze hs⟩, fun r u hu => frz_os r hs hz hle (fun i hi j hj u hu => ?_) hu⟩⟩
      rw [hc] at hu
      exact isDat_RC (h.l i hi j hj) hu
    · exact h.elim
  · exact h.elim
theorem frzN_run : ∀ (m j : Nat) (f : Nat → AV) (hp : Nat → Option Ent) (L : (Nat → Cell) × List (Nat × Ent) → Prop), (frzN hp gc m j f).run L →
    ∃ g hs, L (g, hs) ∧ ∀ {O W N fr a w be}, Fz O W N fr gc a w be hp (putH hs hp) ∧ (Rel O W N ⟨fr, hp, gc⟩ a w be → ∀ i, i < m → ∀ u, RA be gc (own O be ⟨fr, hp, gc⟩) w (f (j + i)) u → RC (own O be ⟨fr, putH hs hp, gc⟩) w (g i) u)
  | 0, j, f, hp, L, h => ⟨_, _, h, fun {_ _ _ _ _ _ _} => ⟨Fz.refl _, fun _ i hi => absurd hi (by omega)⟩⟩
  | m + 1, j, f, hp, L, h => by
    simp only [frzN, M.run_bind] at h
    replace h := frzC_run h
    obtain ⟨x, hs1, h, p1⟩ := h
    replace h := frzN_run m (j + 1) f _ _ h
    obtain ⟨g, hs2, h, p2⟩ := h
    refine ⟨_, _, h, fun {O W N fr a w be} => ?_⟩
    obtain ⟨f1, r1⟩ := p1 (O := O) (W := W) (N := N) (fr := fr) (a := a) (w := w) (be := be)
    obtain ⟨f2, r2⟩ := p2 (O := O) (W := W) (N := N) (fr := fr) (a := a) (w := w) (be := be)
    simp only [putH_append]
    refine ⟨f1.trans f2, fun r i hi u hu => ?_⟩
    cases i with
    | zero => exact (f2.keeps (f1.rel r)).rc (r1 r u hu)
    | succ i => exact r2 (f1.rel r) i (by omega) u ((f1.keeps r).ra u (by rw [show j + 1 + i = j + (i + 1) by omega]; exact hu))
theorem stoV_run {hp : Nat → Option Ent} {keep : Bool} {v : AV} {L : AV × List (Nat × Ent) → Prop} (h : (stoV hp gc keep v).run L) :
    ∃ x hs, L (x, hs) ∧ ∀ {O W N fr a w be}, Fz O W N fr gc a w be hp (putH hs hp) ∧ (Rel O W N ⟨fr, hp, gc⟩ a w be → ∀ u, RA be gc (own O be ⟨fr, hp, gc⟩) w v u → RA be gc (own O be ⟨fr, putH hs hp, gc⟩) w x u ∧ u.oneCell' = true) := by
  unfold stoV at h
  split at h
  · rename_i s q size off len
    cases keep with
    | true => exact ⟨_, _, h, fun {_ _ _ _ _ _ _} => ⟨Fz.refl _, fun _ u hu => ⟨hu, by obtain ⟨p, cap, e, _⟩ := RA_os_val hu; rw [e]; rfl⟩⟩⟩
    | false =>
      simp only [cond_false, M.run_bind] at h
      replace h := frzC_run h
      obtain ⟨x, hs, h, p⟩ := h
      refine ⟨_, _, h, fun {O W N fr a w be} => ?_⟩
      obtain ⟨f1, r1⟩ := p (O := O) (W := W) (N := N) (fr := fr) (a := a) (w := w) (be := be)
      exact ⟨f1, fun r u hu => ⟨r1 r u hu, by obtain ⟨p, cap, e, _⟩ := RA_os_val hu; rw [e]; rfl⟩⟩
  · exact ⟨_, _, h, fun {_ _ _ _ _ _ _} => ⟨Fz.refl _, fun _ u hu => ⟨hu, RC_one hu⟩⟩⟩
  · cases keep with
    | true => exact ⟨_, _, h, fun {_ _ _ _ _ _ _} => ⟨Fz.refl _, fun _ u hu => ⟨hu, by rw [show u = .slice none 0 0 from hu]; rfl⟩⟩⟩
    | false => exact ⟨_, _, h, fun {_ _ _ _ _ _ _} => ⟨Fz.refl _, fun _ u hu => ⟨.inl ⟨rfl, none, hu⟩, by rw [show u = .slice none 0 0 from hu]; rfl⟩⟩⟩
  · exact h.elim
theorem stoN_run {keep : Bool} : ∀ (m j : Nat) (f : Nat → AV) (hp : Nat → Option Ent) (L : (Nat → AV) × List (Nat × Ent) → Prop), (stoN hp gc keep m j f).run L →
    ∃ g hs, L (g, hs) ∧ ∀ {O W N fr a w be}, Fz O W N fr gc a w be hp (putH hs hp) ∧ (Rel O W N ⟨fr, hp, gc⟩ a w be → ∀ i, i < m → ∀ u, RA be gc (own O be ⟨fr, hp, gc⟩) w (f (j + i)) u → RA be gc (own O be ⟨fr, putH hs hp, gc⟩) w (g i) u ∧ u.oneCell' = true)
  | 0, j, f, hp, L, h => ⟨_, _, h, fun {_ _ _ _ _ _ _} => ⟨Fz.refl _, fun _ i hi => absurd hi (by omega)⟩⟩
  | m + 1, j, f, hp, L, h => by
    simp only [stoN, M.run_bind] at h
    replace h := stoV_run h
    obtain ⟨x, hs1, h, p1⟩ := h
    replace h := stoN_run m (j + 1) f _ _ h
    obtain ⟨g, hs2, h, p2⟩ := h
    refine ⟨_, _, h, fun {O W N fr a w be} => ?_⟩
    obtain ⟨f1, r1⟩ := p1 (O := O) (W := W) (N := N) (fr := fr) (a := a) (w := w) (be := be)
    obtain ⟨f2, r2⟩ := p2 (O := O) (W := W) (N := N) (fr := fr) (a := a) (w := w) (be := be)
    simp only [putH_append]
    refine ⟨f1.trans f2, fun r i hi u hu => ?_⟩
    cases i with
    | zero => exact ⟨(f2.keeps (f1.rel r)).ra u (r1 r u hu).1, (r1 r u hu).2⟩
    | succ i => exact r2 (f1.rel r) i (by omega) u ((f1.keeps r).ra u (by rw [show j + 1 + i = j + (i + 1) by omega]; exact hu))
/-! stores -/

theorem run_storeCells_list {b o : Nat} {el : TypeId} {fz : Nat × Nat} : ∀ (vs : List Value) (i : Nat) (cs : Array Value) (w : World), w.heap[b]? = some (.cells cs el fz) → o + i + vs.length ≤ cs.size →
    (∀ k, k < cs.size → ¬ (fz.1 ≤ k ∧ k < fz.2)) → (∀ v ∈ vs, v.oneCell' = true) →
    ∃ w' cs', (storeCells ⟨b, o, none⟩ vs i).run P w = .ok () w' ∧ w'.heap[b]? = some (.cells cs' el fz) ∧ cs'.size = cs.size ∧
      (∀ m, cs'[m]? = if o + i ≤ m ∧ m < o + i + vs.length then vs[m - (o + i)]? else cs[m]?) ∧
      (∀ k, k ≠ b → w'.heap[k]? = w.heap[k]?) ∧ w'.os = w.os ∧ w'.tape = w.tape ∧ w'.output = w.output ∧ w'.heap.size = w.heap.size
  | [], i, cs, w, hb, _, _, _ => ⟨w, cs, rfl, hb, rfl, fun m => by rw [if_neg (by simp only [List.length_nil]; omega)], fun _ _ => rfl, rfl, rfl, rfl, rfl⟩
  | v :: vs, i, cs, w, hb, hl, hc, h1 => by
    simp only [List.length_cons] at hl
    have hcell : w.cell? ⟨b, o + i, none⟩ = some (cs[o + i]'(by omega)) := by
      simp [World.cell?, hb, Array.getElem?_eq_getElem (show o + i < cs.size by omega)]
    have hfrz : w.frozen? ⟨b, o + i, none⟩ = false := by
      have := hc (o + i) (by omega)
      unfold World.frozen?
      rw [hb]
      simp only
      rw [Bool.eq_false_iff]
      intro hh
      simp only [Bool.and_eq_true, decide_eq_true_eq] at hh
      exact this hh
    have hst : (store ⟨b, o + i, none⟩ v).run P w = .ok () (w.setCell ⟨b, o + i, none⟩ v) := by
      rw [run_store P w _ v _ (h1 v (by simp))]
      simp [hcell, hfrz]
    have hb' : (w.setCell ⟨b, o + i, none⟩ v).heap[b]? = some (.cells (cs.setIfInBounds (o + i) v) el fz) := by
      simp [World.setCell, Array.getElem?_modify, hb]
    obtain ⟨w', cs', hr, hh, hs, hm, ho, e1, e2, e3, e4⟩ := run_storeCells_list (b := b) (o := o) vs (i + 1) (cs.setIfInBounds (o + i) v) (w.setCell ⟨b, o + i, none⟩ v) hb' (by rw [Array.size_setIfInBounds]; omega) (by simpa using hc) (fun v hv => h1 v (by simp [hv]))
    refine ⟨w', cs', ?_, hh, by simpa using hs, fun m => ?_, fun k hk => ?_, e1, e2, e3, by simpa using e4⟩
    · unfold storeCells
      simp only [Sem.run_bind, addr_add, hst, Result.andThen_ok]
      exact hr
    · rw [hm m]
      simp only [List.length_cons]
      by_cases hmi : m = o + i
      · subst hmi
        rw [if_neg (by omega), if_pos (by omega), Nat.sub_self, Array.getElem?_setIfInBounds_self]
        simp; omega
      · by_cases hc2 : o + (i + 1) ≤ m ∧ m < o + (i + 1) + vs.length
        · rw [if_pos hc2, if_pos (by omega), show m - (o + i) = (m - (o + (i + 1))) + 1 by omega, List.getElem?_cons_succ]
        · rw [if_neg hc2, if_neg (by omega), Array.getElem?_setIfInBounds_ne (by omega)]
    · rw [ho k hk]
      exact Below.heap_setCell _ _ _ _ hk
def EC.isUpd (e e' : EC) (row col m : Nat) (g : Nat → AV) (n size : Nat) : Prop :=
  ∀ i, i < n → ∀ j, j < size → (i = row ∧ col ≤ j ∧ j < col + m → e'.at i j = g (j - col)) ∧ (¬ (i = row ∧ col ≤ j ∧ j < col + m) → e'.at i j = e.at i j)
theorem updC_at {α : Type} (c : Nat → Nat → α) (row col : Nat) (v : α) (i j : Nat) : updC c row col v i j = if i = row ∧ j = col then v else c i j := by
  unfold updC
  by_cases hj : j = col
  · subst hj
    by_cases hi : i = row
    · subst hi; simp
    · simp [beq_ne hi, hi]
  · simp [beq_ne hj, hj]
theorem upd1_at {e : EC} {row col : Nat} {v : AV} (hr : ∀ c, e = .var c → row = 0) {i j : Nat} (hi : ∀ c, e = .var c → i = 0) : (e.upd1 row col v).at i j = if i = row ∧ j = col then v else e.at i j := by
  unfold EC.upd1
  split
  · rename_i c
    have h1 := hr c rfl
    have h2 := hi c rfl
    subst h1 h2
    simp only [EC.at, updV]
    by_cases hj : j = col
    · subst hj; simp
    · simp [beq_ne hj, hj]
  · rename_i c
    split
    · simp only [EC.at, updC_at]; split <;> rfl
    · simp only [EC.at, updC_at]
  · simp only [EC.at, updC_at]
theorem upd1_var {e : EC} {row col : Nat} {v : AV} {c : Nat → AV} (h : e.upd1 row col v = .var c) : ∃ c', e = .var c' := by
  cases e with
  | var c' => exact ⟨c', rfl⟩
  | dat c' => unfold EC.upd1 at h; cases v <;> exact absurd h (by simp)
  | gen c' => exact absurd h (by simp [EC.upd1])
theorem updN_isUpd : ∀ (m : Nat) (e : EC) (row col : Nat) (g : Nat → AV) (n size : Nat), (∀ c, e = .var c → row = 0 ∧ n = 1) → EC.isUpd e (e.updN row col m g) row col m g n size
  | 0, e, row, col, g, n, size, _ => fun i hi j hj => ⟨fun h => by omega, fun _ => rfl⟩
  | m + 1, e, row, col, g, n, size, hv => fun i hi j hj => by
    have hv' : ∀ c, e.upd1 row col (g 0) = .var c → row = 0 ∧ n = 1 := fun c hc => by
      obtain ⟨c', hc'⟩ := upd1_var hc
      exact hv c' hc'
    have ih := updN_isUpd m (e.upd1 row col (g 0)) row (col + 1) (fun j => g (j + 1)) n size hv' i hi j hj
    have hat := upd1_at (e := e) (row := row) (col := col) (v := g 0) (fun c hc => (hv c hc).1) (i := i) (j := j) (fun c hc => by have := (hv c hc).2; omega)
    unfold EC.updN
    refine ⟨fun h => ?_, fun h => ?_⟩
    · by_cases hj' : j = col
      · rw [ih.2 (by omega), hat, if_pos ⟨h.1, hj'⟩, hj', Nat.sub_self]
      · rw [ih.1 ⟨h.1, by omega, by omega⟩, show j - col = j - (col + 1) + 1 by omega]
    · rw [ih.2 (fun h2 => h ⟨h2.1, by omega, by omega⟩), hat, if_neg (fun h2 => h ⟨h2.1, by omega, by omega⟩)]
theorem Row.upd {ga : Nat → Nat} {Q : Nat → Prop} {e : Ent} {cs cs' : Array Value} {fz : Nat × Nat} (h : Row be ga Q w e cs fz) {c' : EC} {row col m : Nat} {g : Nat → AV} {vs : List Value}
    (hu : EC.isUpd e.c c' row col m g e.n e.size) (hvs : vs.length = m) (hrow : row < e.n) (hcol : col + m ≤ e.size) (hsz : cs'.size = cs.size)
    (hcs : ∀ k, cs'[k]? = if row * e.size + col ≤ k ∧ k < row * e.size + col + m then vs[k - (row * e.size + col)]? else cs[k]?)
    (h1 : ∀ v ∈ vs, v.oneCell' = true) (hg : ∀ j, j < m → ∃ u, vs[j]? = some u ∧ RA be ga Q w (g j) u) : Row be ga Q w { e with c := c' } cs' fz := by
  refine ⟨by rw [hsz]; exact h.fit, by rw [hsz]; exact h.clean, h.plain, fun i u hiu => ?_, fun i hi j hj => ?_⟩
  · rw [hcs i] at hiu
    split at hiu
    · exact h1 u (List.mem_of_getElem? hiu)
    · exact h.one i u hiu
  · simp only at hi hj ⊢
    obtain ⟨u1, u2⟩ := hu i hi j hj
    by_cases hc : i = row ∧ col ≤ j ∧ j < col + m
    · obtain ⟨rfl, hc1, hc2⟩ := hc
      obtain ⟨u, hu, hr⟩ := hg (j - col) (by omega)
      refine ⟨u, ?_, by rw [u1 ⟨rfl, hc1, hc2⟩]; exact hr⟩
      rw [hcs, if_pos (by omega), show i * e.size + j - (i * e.size + col) = j - col by omega]
      exact hu
    · obtain ⟨u, hu, hr⟩ := h.cont i hi j hj
      refine ⟨u, ?_, by rw [u2 hc]; exact hr⟩
      rw [hcs, if_neg]
      · exact hu
      · intro hh
        apply hc
        have hir : i = row := by
          rcases Nat.lt_trichotomy i row with hlt | heq | hgt
          · exfalso
            have : (i + 1) * e.size ≤ row * e.size := Nat.mul_le_mul_right _ hlt
            rw [Nat.add_mul, Nat.one_mul] at this
            omega
          · exact heq
          · exfalso
            have : (row + 1) * e.size ≤ i * e.size := Nat.mul_le_mul_right _ hgt
            rw [Nat.add_mul, Nat.one_mul] at this
            omega
        subst hir
        exact ⟨rfl, by omega, by omega⟩
theorem Rel.store {hp : Nat → Option Ent} (h : Rel O W N ⟨fr, hp, gc⟩ a w be) {t : TypeId} {i : TypeInfo} (hi : P.info? t = some i) {s b row col m : Nat} {e : Ent} (hs : hp s = some e) (hfz : e.fz = false) (hb : be s (gc s) = some b)
    (hrow : row < e.n) (hcol : col + m ≤ e.size) (him : i.size = m) {c' : EC} {g : Nat → AV} (hu : EC.isUpd e.c c' row col m g e.n e.size) {v : Value}
    (hv : Reads be gc (own O be ⟨fr, hp, gc⟩) w m g v.cells) :
    ∃ w', (storeVar t ⟨b, row * e.size + col, none⟩ v).run P w = .ok () w' ∧ Rel O W N ⟨fr, setH hp s { e with c := c' }, gc⟩ a w' be := by
  rcases h.ent s e hs with ⟨h0, _⟩ | ⟨b', cs, el, fz, h1, h2, h3, h4⟩
  · rw [hb] at h0; exact absurd h0 (by simp)
  · rw [hb] at h1
    obtain rfl := Option.some.inj h1
    have hlen : v.cells.toList.length = m := by simpa using hv.1
    have hone : ∀ u ∈ v.cells.toList, u.oneCell' = true := fun u hu => by
      obtain ⟨j, hj, rfl⟩ := List.getElem_of_mem hu
      obtain ⟨u', hu', h1, _⟩ := hv.2 j (by omega)
      have : u' = v.cells.toList[j] := by
        have : v.cells.toList[j]? = some u' := by simpa using hu'
        rw [List.getElem?_eq_getElem hj] at this
        exact (Option.some.inj this).symm
      rw [← this]; exact h1
    have hfit : row * e.size + col + m ≤ cs.size := by
      have h5 := h4.fit
      have : (row + 1) * e.size ≤ e.n * e.size := Nat.mul_le_mul_right _ hrow
      rw [Nat.add_mul, Nat.one_mul] at this
      omega
    obtain ⟨w', cs', hr, hh, hsz, hm, ho, e1, e2, e3, e4⟩ := run_storeCells_list (P := P) (b := b) (o := row * e.size + col) v.cells.toList 0 cs w h3 (by omega) h4.clean hone
    have hrow' := h4.upd hu hlen hrow hcol hsz (fun k => by have := hm k; simp only [Nat.add_zero, hlen] at this; exact this) hone (fun j hj => by
      obtain ⟨u, hu, _, hr⟩ := hv.2 j hj
      exact ⟨u, by simpa using hu, hr⟩)
    refine ⟨w', ?_, h.write hs hfz hb ho e1 e2 e3 e4 h3 hh hsz hfz hrow'⟩
    unfold storeVar
    simp only [Sem.run_bind, run_sizeOf hi, Result.andThen_ok]
    rw [if_neg (by simp; rw [hv.1, him])]
    simp only [Sem.run_pure, Result.andThen_ok, hr]
end
end Lk
namespace Lk
open Go Go.RowKit
section
variable {P : Program} {O : Nat → Prop} {W : World} {N : Nat} {fr : Nat → AV} {hp : Nat → Option Ent} {gc : Nat → Nat} {a : Act} {w : World} {be : Nm} {o : Oper} {d : Nat} {L : Dl → Prop}
def Ef (P : Program) (O : Nat → Prop) (W : World) (N : Nat) (fr : Nat → AV) (hp : Nat → Option Ent) (gc : Nat → Nat) (a : Act) (o : Oper) (w : World) (δ : Dl) : Prop :=
  ∃ w' u be', (execOp a.eval o).run P w = .ok (.value u) w' ∧ Rel O W N ⟨fr, putH δ.hs hp, putG δ.gs gc⟩ a w' be' ∧
    RA be' (putG δ.gs gc) (own O be' ⟨fr, putH δ.hs hp, putG δ.gs gc⟩) w' δ.v u
def Es (P : Program) (O : Nat → Prop) (W : World) (N : Nat) (fr : Nat → AV) (hp : Nat → Option Ent) (gc : Nat → Nat) (a : Act) (o : Oper) (w : World) (δ : Dl) : Prop :=
  δ.gs = [] ∧ ∃ w', (execOp a.eval o).run P w = .ok .skip w' ∧ Rel O W N ⟨fr, putH δ.hs hp, gc⟩ a w' be
theorem below_alloc (w : World) (ob : Obj) : Below w.heap.size w (w.alloc ob) := (Below.refl _ _).alloc (Nat.le_refl _) _
theorem below_drew_alloc (w : World) (ob : Obj) : Below w.heap.size w (w.drew.alloc ob) := ((Below.refl _ _).drew).alloc (Nat.le_refl _) _
theorem heap_alloc_new' (w : World) (ob : Obj) : (w.alloc ob).heap[w.heap.size]? = some ob := heap_alloc_new w ob
theorem ef_var (h : Rel O W N ⟨fr, hp, gc⟩ a w be) {size : Nat} {c : Nat → AV} {cs : Array Value} {el : TypeId} (hr : Reads be gc (own O be ⟨fr, hp, gc⟩) w size c cs)
    (hrun : (execOp a.eval o).run P w = .ok (.value (.pointer (some ⟨w.heap.size, 0, none⟩))) (w.alloc (.cells cs el))) :
    Ef P O W N fr hp gc a o w (.var ⟨fr, hp, gc⟩ d size c) := by
  have row : Row be gc (own O be ⟨fr, hp, gc⟩) w ⟨size, 1, .var c, false, true⟩ cs (0, 0) := by
    refine ⟨by simp only; rw [hr.1]; omega, fun k _ h => by omega, fun _ => rfl, fun i u hu => ?_, fun i hi j hj => ?_⟩
    · have hi : i < size := by
        rcases Nat.lt_or_ge i size with h' | h'
        · exact h'
        · rw [Array.getElem?_eq_none (by rw [hr.1]; exact h')] at hu; exact absurd hu (by simp)
      obtain ⟨u', hu', h1, _⟩ := hr.2 i hi
      rw [hu] at hu'
      rw [Option.some.inj hu']; exact h1
    · simp only at hi hj ⊢
      obtain ⟨u, hu, _, hru⟩ := hr.2 j hj
      refine ⟨u, ?_, hru⟩
      have : i = 0 := by omega
      subst this
      simpa using hu
  obtain ⟨be', hrel, hb, k⟩ := h.new1 (d := d) (below_alloc w (.cells cs el)) (Nat.le_refl _) (heap_alloc_new' w _) row
  exact ⟨_, _, be', hrun, hrel, by show gc d + 1 ≤ bump gc d d; rw [bump_same]; exact Nat.le_refl _, _, hb, rfl⟩
theorem ef_row (h : Rel O W N ⟨fr, hp, gc⟩ a w be) {size n : Nat} {c : EC} {ap : Bool} {cs : Array Value} {el : TypeId} {fz : Nat × Nat} {w' : World} {v : AV} {u : Value} (hb : Below w.heap.size w w')
    (hh : w'.heap[w.heap.size]? = some (.cells cs el fz)) (row : Row be gc (own O be ⟨fr, hp, gc⟩) w ⟨size, n, c, false, ap⟩ cs fz)
    (hrun : (execOp a.eval o).run P w = .ok (.value u) w')
    (hv : ∀ be', be' d (gc d + 1) = some w.heap.size → RA be' (bump gc d) (own O be' ⟨fr, setH hp d ⟨size, n, c, false, ap⟩, bump gc d⟩) w' v u) :
    Ef P O W N fr hp gc a o w (.new d v size n c ap) := by
  obtain ⟨be', hrel, hb', k⟩ := h.new1 (d := d) hb (Nat.le_refl _) hh row
  exact ⟨_, _, be', hrun, hrel, hv be' hb'⟩
theorem ra_os_new {be' : Nm} {gc' : Nat → Nat} {Q : Nat → Prop} {w' : World} {q b size len cap : Nat} {cs : Array Value} {el : TypeId} {fz : Nat × Nat} (hq : q ≤ gc' d) (hb' : be' d q = some b) (hh : w'.heap[b]? = some (.cells cs el fz))
    (h1 : len ≤ cap) (h2 : cap ≤ 9223372036854775807) (h3 : cap * size ≤ cs.size) : RA be' gc' Q w' (.os d q size 0 len) (.slice (some ⟨b, 0, none⟩) len cap) :=
  ⟨hq, .inr ⟨b, 0, cap, cs, el, fz, hb', rfl, h1, h2, fun _ => by omega, hh, by omega⟩⟩
def cAlloc (P : Program) (op : Op) (size : Nat) (z : List Cst) : Bool :=
  match op with
  | .alloc t => chkZero P t z && Nat.beq z.length size
  | _ => false
theorem zero_reads {t : TypeId} {z : List Cst} (hz : chkZero P t z = true) (be : Nm) (ga : Nat → Nat) (Q : Nat → Prop) (w : World) : ∃ i v, P.info? t = some i ∧ i.zero = some v ∧ i.size = z.length ∧ Reads be ga Q w z.length (avs z) v.cells := by
  obtain ⟨i, zv, hi, hzv, hzz, hsz⟩ := chkZero_eq hz
  refine ⟨i, zv, hi, hzv, hsz, by have := chkZ_len hzz; simpa using this, fun j hj => ?_⟩
  obtain ⟨u, hu, h1, hr, _⟩ := chkZ_RA (be := be) (ga := ga) (O := Q) (w := w) hzz j hj
  exact ⟨u, by simpa using hu, h1, hr⟩
theorem e_alloc (h : Rel O W N ⟨fr, hp, gc⟩ a w be) {size : Nat} {z : List Cst} (hc : cAlloc P o.op size z = true) (hl : (eff (.alloc size z) d True ⟨fr, hp, gc⟩).run L) :
    ∃ δ, L δ ∧ Ef P O W N fr hp gc a o w δ := by
  unfold cAlloc at hc
  split at hc
  case h_2 => exact absurd hc (by decide)
  rename_i t ho
  simp only [Bool.and_eq_true] at hc
  obtain rfl := beqN hc.2
  obtain ⟨i, zv, hi, hz, hsz, hr⟩ := zero_reads hc.1 be gc (own O be ⟨fr, hp, gc⟩) w
  refine ⟨_, hl, ef_var h (el := t) hr ?_⟩
  simp [execOp, ho, Instr.alloc, zeroValue, typeInfo, hi, hz, newVar, newRow]
def rep : Nat → List Cst → List Cst
  | 0, _ => []
  | n + 1, z => z ++ rep n z
theorem avs_app : ∀ (z l : List Cst) (j : Nat), avs (z ++ l) j = if j < z.length then avs z j else avs l (j - z.length)
  | [], l, j => by simp
  | c :: z, l, 0 => rfl
  | c :: z, l, j + 1 => by
    have := avs_app z l j
    simp only [List.cons_append, avs, List.length_cons]
    rw [this]
    by_cases h : j < z.length
    · rw [if_pos h, if_pos (by omega)]
    · rw [if_neg h, if_neg (by omega)]
      congr 1; omega
theorem avs_rep : ∀ (n : Nat) (z : List Cst) (i j : Nat), i < n → j < z.length → avs (rep n z) (i * z.length + j) = avs z j
  | 0, z, i, j, hi, _ => absurd hi (by omega)
  | n + 1, z, 0, j, _, hj => by rw [rep, avs_app, if_pos (by omega)]; congr 1; omega
  | n + 1, z, i + 1, j, hi, hj => by
    rw [rep, avs_app, if_neg (by rw [Nat.add_mul]; omega)]
    rw [show (i + 1) * z.length + j - z.length = i * z.length + j by rw [Nat.add_mul]; omega]
    exact avs_rep n z i j (by omega) hj
theorem rep_len : ∀ (n : Nat) (z : List Cst), (rep n z).length = n * z.length
  | 0, z => by simp [rep]
  | n + 1, z => by simp [rep, rep_len n z, Nat.add_mul]; omega
def cAllocR (P : Program) (op : Op) (rows size : Nat) (z : List Cst) : Bool :=
  match op with
  | .alloc t => chkZero P t (rep rows z) && Nat.beq z.length size
  | _ => false
theorem e_allocR (h : Rel O W N ⟨fr, hp, gc⟩ a w be) {rows size : Nat} {z : List Cst} (hc : cAllocR P o.op rows size z = true) (hl : (eff (.allocR rows size z) d True ⟨fr, hp, gc⟩).run L) :
    ∃ δ, L δ ∧ Ef P O W N fr hp gc a o w δ := by
  unfold cAllocR at hc
  split at hc
  case h_2 => exact absurd hc (by decide)
  rename_i t ho
  simp only [Bool.and_eq_true] at hc
  obtain rfl := beqN hc.2
  obtain ⟨i, zv, hi, hz, hzz, hsz⟩ := chkZero_eq hc.1
  have hlen := chkZ_len hzz
  rw [rep_len] at hlen
  have hget : ∀ k, k < rows * z.length → ∃ u, zv.cells[k]? = some u ∧ u.oneCell' = true ∧ RA be gc (own O be ⟨fr, hp, gc⟩) w (avs (rep rows z) k) u := fun k hk => by
    obtain ⟨u, hu, h1, hr, _⟩ := chkZ_RA (be := be) (ga := gc) (O := own O be ⟨fr, hp, gc⟩) (w := w) hzz k (by rw [rep_len]; exact hk)
    exact ⟨u, by simpa using hu, h1, hr⟩
  have hlen' : zv.cells.size = rows * z.length := by simpa using hlen
  have row : Row be gc (own O be ⟨fr, hp, gc⟩) w ⟨z.length, rows, .gen fun _ j => avs z j, false, true⟩ zv.cells (0, 0) := by
    refine ⟨by simp only; omega, fun k _ h => by omega, fun _ => rfl, fun k u hu => ?_, fun i hi j hj => ?_⟩
    · have hk : k < rows * z.length := by
        rcases Nat.lt_or_ge k (rows * z.length) with h' | h'
        · exact h'
        · rw [Array.getElem?_eq_none (by omega)] at hu; exact absurd hu (by simp)
      obtain ⟨u', hu', h1, _⟩ := hget k hk
      rw [hu] at hu'
      rw [Option.some.inj hu']; exact h1
    · simp only at hi hj ⊢
      have hk : i * z.length + j < rows * z.length := by
        have : (i + 1) * z.length ≤ rows * z.length := Nat.mul_le_mul_right _ hi
        rw [Nat.add_mul, Nat.one_mul] at this
        omega
      obtain ⟨u, hu, _, hr⟩ := hget _ hk
      rw [avs_rep rows z i j hi hj] at hr
      exact ⟨u, hu, hr⟩
  refine ⟨_, hl, ef_row h (below_alloc w (.cells zv.cells t)) (heap_alloc_new' w _) row ?_ fun be' hb => ⟨by rw [bump_same]; exact Nat.le_refl _, _, hb, rfl⟩⟩
  simp [execOp, ho, Instr.alloc, zeroValue, typeInfo, hi, hz, newVar, newRow]
def cBox (op : Op) (x : Opd) : Bool :=
  match op with
  | .box _ x' => chkX x' x
  | _ => false
theorem run_box {u : Value} (h : (∃ t x', o.op = .box t x' ∧ a.eval x' = u)) : ∃ t, (execOp a.eval o).run P w = .ok (.value (.pointer (some ⟨w.heap.size, 0, none⟩))) (w.alloc (.cells u.cells t)) := by
  obtain ⟨t, x', ho, rfl⟩ := h
  exact ⟨t, by simp [execOp, ho, Instr.box, newVar, newRow]⟩
theorem e_box (h : Rel O W N ⟨fr, hp, gc⟩ a w be) {size : Nat} {x : Opd} (hc : cBox o.op x = true) (hl : (eff (.box size x) d True ⟨fr, hp, gc⟩).run L) :
    ∃ δ, L δ ∧ Ef P O W N fr hp gc a o w δ := by
  unfold cBox at hc
  split at hc
  case h_2 => exact absurd hc (by decide)
  rename_i t x' ho
  obtain ⟨t', hrun⟩ := run_box (P := P) (w := w) ⟨t, x', ho, rfl⟩
  simp only [eff_eq, effS, M.run_bind] at hl
  replace hl := rd_sound h.slot hc hl
  obtain ⟨v, hl, hv⟩ := hl
  replace hv := hv trivial
  split at hl
  · rename_i n f
    rw [M.run_iff'] at hl
    obtain ⟨hz, hl⟩ := hl
    obtain rfl := beqN hz
    exact ⟨_, hl, ef_var h (agg_reads hv) hrun⟩
  · rw [M.run_iff'] at hl
    obtain ⟨hz, hl⟩ := hl
    obtain ⟨hl, h1⟩ := isOne_run (be := be) (ga := gc) (O := own O be ⟨fr, hp, gc⟩) (w := w) hl
    exact ⟨_, hl, ef_var h (one_reads (h1 _ hv) hv) hrun⟩
theorem e_boxR (h : Rel O W N ⟨fr, hp, gc⟩ a w be) {n : Nat} {x : Opd} (hc : cBox o.op x = true) (hl : (eff (.boxR n x) d True ⟨fr, hp, gc⟩).run L) :
    ∃ δ, L δ ∧ Ef P O W N fr hp gc a o w δ := by
  unfold cBox at hc
  split at hc
  case h_2 => exact absurd hc (by decide)
  rename_i t x' ho
  obtain ⟨t', hrun⟩ := run_box (P := P) (w := w) ⟨t, x', ho, rfl⟩
  simp only [eff_eq, effS, M.run_bind] at hl
  replace hl := rd_sound h.slot hc hl
  obtain ⟨v, hl, hv⟩ := hl
  replace hv := hv trivial
  split at hl
  · rename_i m f
    rw [M.run_iff'] at hl
    obtain ⟨hz, hl⟩ := hl
    obtain rfl := beqN hz
    obtain ⟨hs, hr⟩ := agg_reads hv
    have row : Row be gc (own O be ⟨fr, hp, gc⟩) w ⟨1, m, .gen fun i _ => f i, false, true⟩ (a.eval x').cells (0, 0) := by
      refine ⟨by simp only; omega, fun k _ h => by omega, fun _ => rfl, fun k u hu => ?_, fun i hi j hj => ?_⟩
      · have hk : k < m := by
          rcases Nat.lt_or_ge k m with h' | h'
          · exact h'
          · rw [Array.getElem?_eq_none (by omega)] at hu; exact absurd hu (by simp)
        obtain ⟨u', hu', h1, _⟩ := hr k hk
        rw [hu] at hu'
        rw [Option.some.inj hu']; exact h1
      · simp only at hi hj ⊢
        obtain ⟨u, hu, _, hru⟩ := hr i hi
        refine ⟨u, ?_, hru⟩
        rw [show i * 1 + j = i by omega]; exact hu
    exact ⟨_, hl, ef_row h (below_alloc w (.cells (a.eval x').cells t')) (heap_alloc_new' w _) row hrun fun be' hb => ⟨by rw [bump_same]; exact Nat.le_refl _, _, hb, by simp⟩⟩
  · exact hl.elim
/-! make -/

def tyB (P : Program) (t : TypeId) (bytes : Nat) : Bool :=
  match P.info? t with
  | some i => Nat.beq i.bytes bytes
  | none => false
def sameX : Operand → Operand → Bool
  | .tmp i, .tmp j => Nat.beq i j
  | .const (.int k n), .const (.int k' n') => isK k k' && decide (n = n')
  | _, _ => false
theorem sameX_eq {x y : Operand} (h : sameX x y = true) (a : Act) : a.eval x = a.eval y := by
  unfold sameX at h
  split at h
  · rw [beqN h]
  · simp only [Bool.and_eq_true, decide_eq_true_eq] at h
    rw [isK_eq h.1, h.2]
  · exact absurd h (by decide)
def cMk (P : Program) (op : Op) (size bytes : Nat) (z : List Cst) (n : Opd) : Bool :=
  match op with
  | .makeSlice t l c => (match slE P t with
    | some e => chkZero P e z && tyB P e bytes
    | none => false) && Nat.beq z.length size && Nat.ble 1 size && chkX l n && sameX c l
  | _ => false
theorem made_get {z : Array Value} {n k : Nat} (hk : k < n) (hz : 0 < z.size) : (madeCells z n)[k]? = z[k % z.size]? := by
  have hm : k % z.size < z.size := Nat.mod_lt _ hz
  simp [madeCells, hk, Array.getElem?_eq_getElem hm, getElem!_pos z (k % z.size) hm]
theorem mkC_RA {Q : Nat → Prop} {z : List Cst} {i j : Nat} {u : Value} (h : RA be gc Q w (avs z j) u) (h' : RC Q w (cells z j) u) (hj : j < z.length) : RA be gc Q w ((mkC z).at i j) u := by
  unfold mkC
  split
  · exact h'
  · split
    · split
      · obtain rfl : j = 0 := by simpa using hj
        exact h
      · exact h'
    · exact h'
theorem mkC_RC {Q : Nat → Prop} {z : List Cst} {i j : Nat} {u : Value} (h : RA be gc Q w ((mkC z).at i j) u) (hj : j < z.length) : RC Q w (cells z j) u := by
  unfold mkC at h
  split at h
  · exact h
  · split at h
    · split at h
      · obtain rfl : j = 0 := by simpa using hj
        exact .inl ⟨rfl, none, h⟩
      · exact h
    · exact h
theorem row_made0 {Q : Nat → Prop} {z : List Cst} {zv : Value} (hzz : chkZ zv.cells.toList z = true) (hpos : 0 < z.length) (n m : Nat) (hm : n ≤ m) (cs : Array Value) (hsz : cs.size = m * z.length) (hcs : ∀ k, k < m * z.length → cs[k]? = zv.cells[k % z.length]?) (ap : Bool) :
    Row be gc Q w ⟨z.length, n, mkC z, false, ap⟩ cs (0, 0) := by
  have hget : ∀ k, k < m * z.length → ∃ u, cs[k]? = some u ∧ u.oneCell' = true ∧ ∀ i, RA be gc Q w ((mkC z).at i (k % z.length)) u := fun k hk => by
    obtain ⟨u, hu, h1, hra, hr⟩ := chkZ_RA (be := be) (ga := gc) (O := Q) (w := w) hzz (k % z.length) (Nat.mod_lt _ hpos)
    refine ⟨u, ?_, h1, fun _ => mkC_RA hra hr (Nat.mod_lt _ hpos)⟩
    rw [hcs k hk]
    simpa using hu
  refine ⟨?_, fun k _ h => by omega, fun _ => rfl, fun k u hu => ?_, fun i hi j hj => ?_⟩
  · simp only; rw [hsz]; exact Nat.mul_le_mul_right _ hm
  · have hk : k < m * z.length := by
      rcases Nat.lt_or_ge k (m * z.length) with h' | h'
      · exact h'
      · rw [Array.getElem?_eq_none (by omega)] at hu; exact absurd hu (by simp)
    obtain ⟨u', hu', h1, _⟩ := hget k hk
    rw [hu] at hu'
    rw [Option.some.inj hu']; exact h1
  · simp only at hi hj ⊢
    have hk : i * z.length + j < m * z.length := by
      have : (i + 1) * z.length ≤ m * z.length := Nat.mul_le_mul_right _ (by omega)
      rw [Nat.add_mul, Nat.one_mul] at this
      omega
    obtain ⟨u, hu, _, hr⟩ := hget _ hk
    rw [Nat.mul_add_mod_of_lt' hj] at hr
    exact ⟨u, hu, hr i⟩
where
  Nat.mul_add_mod_of_lt' {i j n : Nat} (h : j < n) : (i * n + j) % n = j := by
    rw [Nat.mul_comm, Nat.mul_add_mod, Nat.mod_eq_of_lt h]
theorem row_made {Q : Nat → Prop} {z : List Cst} {zv : Value} (hzz : chkZ zv.cells.toList z = true) (hpos : 0 < z.length) (n m : Nat) (hm : n ≤ m) (cs : Array Value) (hcs : cs = madeCells zv.cells (m * z.length)) (ap : Bool) :
    Row be gc Q w ⟨z.length, n, mkC z, false, ap⟩ cs (0, 0) := by
  have hlen : zv.cells.size = z.length := by have := chkZ_len hzz; simpa using this
  exact row_made0 hzz hpos n m hm cs (by rw [hcs, size_madeCells]) (fun k hk => by rw [hcs, made_get hk (by omega), hlen]) ap
theorem e_mk (h : Rel O W N ⟨fr, hp, gc⟩ a w be) {size bytes : Nat} {z : List Cst} {n : Opd} (hc : cMk P o.op size bytes z n = true) (hl : (eff (.mk size bytes z n) d True ⟨fr, hp, gc⟩).run L) :
    ∃ δ, L δ ∧ Ef P O W N fr hp gc a o w δ := by
  unfold cMk at hc
  split at hc
  case h_2 => exact absurd hc (by decide)
  rename_i t l c ho
  simp only [Bool.and_eq_true] at hc
  obtain ⟨⟨⟨⟨hsl, hz⟩, hpos⟩, hxl⟩, hxc⟩ := hc
  obtain rfl := beqN hz
  have hpos := Nat.le_of_ble_eq_true hpos
  split at hsl
  case h_2 => exact absurd hsl (by decide)
  rename_i e he
  have hu := slE_eq he
  simp only [Bool.and_eq_true] at hsl
  obtain ⟨hz, hby⟩ := hsl
  obtain ⟨i, zv, hi, hzv, hzz, hsz⟩ := chkZero_eq hz
  unfold tyB at hby
  rw [hi] at hby
  have hby := beqN hby
  simp only [eff_eq, effS, M.run_bind] at hl
  replace hl := rd_sound h.slot hxl hl
  obtain ⟨v, hl, hv⟩ := hl
  replace hv := hv trivial
  replace hl := asI_run hl
  obtain ⟨k, m, rfl, hl⟩ := hl
  have e1 : a.eval l = .int k m := hv
  have e2 : a.eval c = .int k m := (sameX_eq hxc a).trans e1
  obtain ⟨h0, h1, h2⟩ := hl.l
  have hb : (i.bytes : Int) * m ≤ 281474976710656 := by rw [hby, Int.mul_comm]; omega
  have hrun := run_make (P := P) w t e i zv hu hi hzv k k m m h0 (Int.le_refl _) hb (by omega)
  rw [hsz] at hrun
  refine ⟨_, hl.r, ef_row h (below_alloc w (.cells (madeCells zv.cells (m.toNat * z.length)) e)) (heap_alloc_new' w _) (row_made hzz hpos m.toNat m.toNat (Nat.le_refl _) _ rfl true) ?_ fun be' hb' =>
    ra_os_new (by rw [bump_same]; exact Nat.le_refl _) hb' (heap_alloc_new' w _) (Nat.le_refl _) (by omega) (by rw [size_madeCells]; exact Nat.le_refl _)⟩
  simp only [execOp, ho, e1, e2, Sem.run_bind, hrun, Result.andThen_ok, Sem.run_pure]
def cMk2 (P : Program) (op : Op) (size bytes : Nat) (z : List Cst) (n c' : Opd) : Bool :=
  match op with
  | .makeSlice t l c => (match slE P t with
    | some e => chkZero P e z && tyB P e bytes
    | none => false) && Nat.beq z.length size && Nat.ble 1 size && chkX l n && chkX c c'
  | _ => false
theorem e_mk2 (h : Rel O W N ⟨fr, hp, gc⟩ a w be) {size bytes : Nat} {z : List Cst} {n c' : Opd} (hc : cMk2 P o.op size bytes z n c' = true) (hl : (eff (.mk2 size bytes z n c') d True ⟨fr, hp, gc⟩).run L) :
    ∃ δ, L δ ∧ Ef P O W N fr hp gc a o w δ := by
  unfold cMk2 at hc
  split at hc
  case h_2 => exact absurd hc (by decide)
  rename_i t l c ho
  simp only [Bool.and_eq_true] at hc
  obtain ⟨⟨⟨⟨hsl, hz⟩, hpos⟩, hxl⟩, hxc⟩ := hc
  obtain rfl := beqN hz
  have hpos := Nat.le_of_ble_eq_true hpos
  split at hsl
  case h_2 => exact absurd hsl (by decide)
  rename_i e he
  have hu := slE_eq he
  simp only [Bool.and_eq_true] at hsl
  obtain ⟨hz, hby⟩ := hsl
  obtain ⟨i, zv, hi, hzv, hzz, hsz⟩ := chkZero_eq hz
  unfold tyB at hby
  rw [hi] at hby
  have hby := beqN hby
  simp only [eff_eq, effS, M.run_bind] at hl
  replace hl := rd_sound h.slot hxl hl
  obtain ⟨v, hl, hv⟩ := hl
  replace hv := hv trivial
  replace hl := asI_run hl
  obtain ⟨k, m, rfl, hl⟩ := hl
  have e1 : a.eval l = .int k m := hv
  rw [M.run_bind] at hl
  replace hl := rd_sound h.slot hxc hl
  obtain ⟨v', hl, hv'⟩ := hl
  replace hv' := hv' trivial
  replace hl := asI_run hl
  obtain ⟨k', m', rfl, hl⟩ := hl
  rw [M.run_iff'] at hl
  obtain ⟨hk, hl⟩ := hl
  have e2 : a.eval c = .int k' m' := hv'
  obtain ⟨h0, h3, h1, h2⟩ := hl.l
  have hb : (i.bytes : Int) * m' ≤ 281474976710656 := by rw [hby, Int.mul_comm]; omega
  have hrun := run_make (P := P) w t e i zv hu hi hzv k k' m m' h0 h3 hb (by omega)
  rw [hsz] at hrun
  refine ⟨_, hl.r, ef_row h (below_alloc w (.cells (madeCells zv.cells (m'.toNat * z.length)) e)) (heap_alloc_new' w _) (row_made hzz hpos m.toNat m'.toNat (by omega) _ rfl true) ?_ fun be' hb' =>
    ra_os_new (cap := m'.toNat) (by rw [bump_same]; exact Nat.le_refl _) hb' (heap_alloc_new' w _) (by omega) (by omega) (by rw [size_madeCells]; exact Nat.le_refl _)⟩
  simp only [execOp, ho, e1, e2, Sem.run_bind, hrun, Result.andThen_ok, Sem.run_pure]
/-! bytes of a string -/

def cS2b (P : Program) (op : Op) (x : Opd) : Bool :=
  match op with
  | .convert s t x' => (match slE P t with
    | some e => isU8T P e
    | none => false) && isStrT P s && chkX x' x
  | _ => false
theorem e_s2b (h : Rel O W N ⟨fr, hp, gc⟩ a w be) {x : Opd} (hc : cS2b P o.op x = true) (hl : (eff (.s2b x) d True ⟨fr, hp, gc⟩).run L) :
    ∃ δ, L δ ∧ Ef P O W N fr hp gc a o w δ := by
  unfold cS2b at hc
  split at hc
  case h_2 => exact absurd hc (by decide)
  rename_i s t x' ho
  simp only [Bool.and_eq_true] at hc
  obtain ⟨⟨hsl, hs⟩, hx⟩ := hc
  split at hsl
  case h_2 => exact absurd hsl (by decide)
  rename_i e he
  have hu := slE_eq he
  have he := isU8T_eq hsl
  have hds := isStrT_eq hs
  simp only [eff_eq, effS, M.run_bind] at hl
  replace hl := rd_sound h.slot hx hl
  obtain ⟨v, hl, hv⟩ := hl
  replace hv := hv trivial
  replace hl := asS_run hl
  obtain ⟨l, rfl, hl⟩ := hl
  have e1 : a.eval x' = .string ⟨⟨l⟩⟩ := hv
  have hlen := hl.l
  have hrun := run_bytes_of_string (P := P) w s t e ⟨⟨l⟩⟩ hds hu he
  rw [bytes_size] at hrun
  have hcap : l.length ≤ grownCap w l.length 0 e := grownCap_ge w _ _ e
  have hcapM : grownCap w l.length 0 e ≤ maxLen := grownCap_le_maxLen w _ _ e (by unfold maxLen; omega)
  generalize grownCap w l.length 0 e = cap at *
  have hcs : (bytesRow ⟨⟨l⟩⟩ cap).size = cap := by simp [bytesRow, bytes_size]; omega
  have hget : ∀ k, k < l.length → (bytesRow ⟨⟨l⟩⟩ cap)[k]? = some (.int .u8 (l.getD k 0).toNat) := fun k hk => by
    unfold bytesRow
    rw [Array.getElem?_append_left (by simpa using hk)]
    simp [List.getElem?_eq_getElem hk, List.getD_eq_getElem?_getD]
  have hone : ∀ (k : Nat) (u : Value), (bytesRow ⟨⟨l⟩⟩ cap)[k]? = some u → u.oneCell' = true := fun k u hu => by
    unfold bytesRow at hu
    rw [Array.getElem?_append] at hu
    split at hu
    · simp at hu; obtain ⟨b, _, rfl⟩ := hu; rfl
    · rw [Array.getElem?_replicate] at hu
      split at hu
      · rw [← Option.some.inj hu]; rfl
      · exact absurd hu (by simp)
  rw [hcs] at hrun
  generalize bytesRow ⟨⟨l⟩⟩ cap = cs at *
  have row : Row be gc (own O be ⟨fr, hp, gc⟩) w ⟨1, l.length, .dat fun i _ => .int .u8 (l.getD i 0).toNat, false, false⟩ cs (cap, cap + 1) := by
    refine ⟨by simp only; omega, fun k hk h => by omega, fun h => absurd h (by simp), hone, fun i hi j hj => ?_⟩
    simp only at hi hj ⊢
    exact ⟨_, by rw [show i * 1 + j = i by omega]; exact hget i hi, rfl⟩
  have hnew : (w.drew.alloc (.cells cs e (cap, cap + 1))).heap[w.heap.size]? = some (.cells cs e (cap, cap + 1)) := heap_alloc_new w.drew _
  refine ⟨_, hl.r, ef_row h (below_drew_alloc w _) hnew row ?_ fun be' hb' => ra_os_new (by rw [bump_same]; exact Nat.le_refl _) hb' hnew hcap (by unfold maxLen at hcapM; omega) (by rw [hcs]; omega)⟩
  simp only [execOp, ho, e1, Sem.run_bind, hrun, Result.andThen_ok, Sem.run_pure]
end
end Lk
namespace Lk
open Go Go.RowKit
section
variable {P : Program} {O : Nat → Prop} {W : World} {N : Nat} {fr : Nat → AV} {hp : Nat → Option Ent} {gc : Nat → Nat} {a : Act} {w : World} {be : Nm} {o : Oper} {d : Nat} {L : Dl → Prop}
/-! a slice of parts -/

inductive PR (Q : Nat → Prop) (w : World) (a : Act) (size : Nat) : List (Nat × Operand) → List (Nat × (Nat → Cell)) → Prop
  | nil : PR Q w a size [] []
  | cons {r : Nat} {x : Operand} {g : Nat → Cell} {ps : List (Nat × Operand)} {l : List (Nat × (Nat → Cell))} (h1 : (a.eval x).cells.size = size)
      (h2 : ∀ j, j < size → ∃ u, (a.eval x).cells[j]? = some u ∧ u.oneCell' = true ∧ RC Q w (g j) u) (t : PR Q w a size ps l) : PR Q w a size ((r, x) :: ps) ((r, g) :: l)
theorem PR.keep {Q Q' : Nat → Prop} {size : Nat} {ps : List (Nat × Operand)} {l : List (Nat × (Nat → Cell))} {be be' : Nm} {ga ga' : Nat → Nat} {w' : World} (k : Keeps be ga Q w be' ga' Q' w') (h : PR Q w a size ps l) : PR Q' w' a size ps l := by
  induction h with
  | nil => exact .nil
  | cons h1 h2 _ ih => exact .cons h1 (fun j hj => let ⟨u, hu, ho, hr⟩ := h2 j hj; ⟨u, hu, ho, k.rc hr⟩) ih
def chkPs (len : Nat) : List (Nat × Operand) → List (Nat × Opd) → Bool
  | [], [] => true
  | (i, x) :: r, (j, y) :: s => Nat.beq i j && Nat.ble (i + 1) len && chkX x y && chkPs len r s
  | _, _ => false
theorem partsL_run {size len : Nat} : ∀ (qs : List (Nat × Opd)) (ps : List (Nat × Operand)) (hp : Nat → Option Ent) (L : List (Nat × (Nat → Cell)) × List (Nat × Ent) → Prop), chkPs len ps qs = true →
    (partsL hp gc fr size qs).run L → ∃ l hs, L (l, hs) ∧ l.map (·.1) = ps.map (·.1) ∧ ∀ {O W N a w be}, Fz O W N fr gc a w be hp (putH hs hp) ∧ (Rel O W N ⟨fr, hp, gc⟩ a w be → PR (own O be ⟨fr, putH hs hp, gc⟩) w a size ps l)
  | [], [], hp, L, _, h => ⟨[], [], h, rfl, fun {_ _ _ _ _ _} => ⟨Fz.refl _, fun _ => .nil⟩⟩
  | [], _ :: _, hp, L, hc, _ => absurd hc (by simp [chkPs])
  | _ :: _, [], hp, L, hc, _ => absurd hc (by simp [chkPs])
  | (j, y) :: qs, (i, x) :: ps, hp, L, hc, h => by
    simp only [chkPs, Bool.and_eq_true] at hc
    obtain ⟨⟨⟨hij, hil⟩, hx⟩, hrest⟩ := hc
    obtain rfl := beqN hij
    simp only [partsL, M.run_bind] at h
    unfold rd at h
    -- the value read
    have hv : ∃ v, (∀ be ga Q w u, RA be ga Q w (opd fr y) u → RA be ga Q w v u) ∧ ((match v with
        | .agg n f => iff' (Nat.beq n size) (frzN hp gc n 0 f)
        | v => iff' (Nat.beq 1 size) (frzN hp gc 1 0 fun _ => v)).run fun x => (partsL (putH x.2 hp) gc fr size qs).run fun z => L ((i, x.1) :: z.1, x.2 ++ z.2)) := by
      obtain ⟨v, h, hv⟩ := rd_run (fr := fr) (x := y) h
      exact ⟨v, hv trivial, h⟩
    clear h
    obtain ⟨v, hv, h⟩ := hv
    -- its cells frozen
    have hz : ∃ g hs1, ((partsL (putH hs1 hp) gc fr size qs).run fun z => L ((i, g) :: z.1, hs1 ++ z.2)) ∧ ∀ {O W N a w be}, Fz O W N fr gc a w be hp (putH hs1 hp) ∧
        (Rel O W N ⟨fr, hp, gc⟩ a w be → ∀ u, RA be gc (own O be ⟨fr, hp, gc⟩) w v u → u.cells.size = size ∧ ∀ j, j < size → ∃ u', u.cells[j]? = some u' ∧ u'.oneCell' = true ∧ RC (own O be ⟨fr, putH hs1 hp, gc⟩) w (g j) u') := by
      split at h
      · rename_i n f
        rw [M.run_iff'] at h
        obtain ⟨hn, h⟩ := h
        obtain rfl := beqN hn
        obtain ⟨g, hs1, h, p⟩ := frzN_run n 0 f hp _ h
        refine ⟨g, hs1, h, fun {O W N a w be} => ?_⟩
        obtain ⟨f1, r1⟩ := p (O := O) (W := W) (N := N) (fr := fr) (a := a) (w := w) (be := be)
        refine ⟨f1, fun r u hu => ?_⟩
        obtain ⟨e1, e2⟩ := agg_reads hu
        refine ⟨e1, fun j hj => ?_⟩
        obtain ⟨u', hu', h1, hr⟩ := e2 j hj
        exact ⟨u', hu', h1, r1 r j hj u' (by rw [Nat.zero_add]; exact hr)⟩
      · rw [M.run_iff'] at h
        obtain ⟨hn, h⟩ := h
        obtain rfl := beqN hn
        obtain ⟨g, hs1, h, p⟩ := frzN_run 1 0 (fun _ => v) hp _ h
        refine ⟨g, hs1, h, fun {O W N a w be} => ?_⟩
        obtain ⟨f1, r1⟩ := p (O := O) (W := W) (N := N) (fr := fr) (a := a) (w := w) (be := be)
        refine ⟨f1, fun r u hu => ?_⟩
        have hrc := r1 r 0 (by omega) u hu
        have h1 := RC_one hrc
        rw [cells_one h1]
        refine ⟨rfl, fun j hj => ?_⟩
        obtain rfl : j = 0 := by omega
        exact ⟨u, rfl, h1, hrc⟩
    clear h
    obtain ⟨g, hs1, h, p1⟩ := hz
    obtain ⟨l, hs2, h, hrows, p2⟩ := partsL_run qs ps _ _ hrest h
    refine ⟨_, _, h, by simp [hrows], fun {O W N a w be} => ?_⟩
    obtain ⟨f1, r1⟩ := p1 (O := O) (W := W) (N := N) (a := a) (w := w) (be := be)
    obtain ⟨f2, r2⟩ := p2 (O := O) (W := W) (N := N) (a := a) (w := w) (be := be)
    rw [putH_append]
    refine ⟨f1.trans f2, fun r => ?_⟩
    obtain ⟨c1, c2⟩ := r1 r (a.eval x) (hv _ _ _ _ _ (chkX_RA r.slot hx))
    refine .cons c1 (fun j hj => ?_) (r2 (f1.rel r))
    obtain ⟨u', hu', h1, hr⟩ := c2 j hj
    exact ⟨u', hu', h1, (f2.keeps (f1.rel r)).rc hr⟩
def RRows (Q : Nat → Prop) (w : World) (size len : Nat) (H : Nat → Nat → Cell) (cs : Array Value) : Prop :=
  cs.size = len * size ∧ ∀ i, i < len → ∀ j, j < size → ∃ u, cs[i * size + j]? = some u ∧ u.oneCell' = true ∧ RC Q w (H i j) u
theorem idx_lt {i j len size : Nat} (hi : i < len) (hj : j < size) : i * size + j < len * size := by
  have : (i + 1) * size ≤ len * size := Nat.mul_le_mul_right _ hi
  rw [Nat.add_mul, Nat.one_mul] at this
  omega
theorem idx_row {i j r k size : Nat} (hj : j < size) (hk : k < size) (h : i * size + j = r * size + k) : i = r ∧ j = k := by
  have h1 : (i * size + j) / size = i := by
    rw [Nat.mul_comm, Nat.mul_add_div (by omega), Nat.div_eq_of_lt hj, Nat.add_zero]
  have h2 : (r * size + k) / size = r := by
    rw [Nat.mul_comm, Nat.mul_add_div (by omega), Nat.div_eq_of_lt hk, Nat.add_zero]
  rw [h] at h1
  have : i = r := h1.symm.trans h2
  subst this
  exact ⟨rfl, by omega⟩
theorem rowsL_skip {r : Nat} {g : Nat → Cell} {H : Nat → Nat → Cell} : ∀ (l : List (Nat × (Nat → Cell))), r ∉ l.map (·.1) → ∀ i j, rowsL l (fun i j => bif Nat.beq i r then g j else H i j) i j = bif Nat.beq i r then g j else rowsL l H i j
  | [], _, i, j => rfl
  | (r', g') :: l, hr, i, j => by
    simp only [List.map_cons, List.mem_cons, not_or] at hr
    simp only [rowsL]
    by_cases h : i = r'
    · subst h
      have hb : Nat.beq i i = true := by simp
      rw [hb, beq_ne (fun e => hr.1 e.symm)]
      rfl
    · rw [beq_ne h]
      simp only [cond_false]
      exact rowsL_skip l hr.2 i j
theorem fillS {Q : Nat → Prop} {size len : Nat} : ∀ (ps : List (Nat × Operand)) (l : List (Nat × (Nat → Cell))) (H : Nat → Nat → Cell) (cs : Array Value), PR Q w a size ps l → RRows Q w size len H cs →
    (∀ p ∈ ps, p.1 < len) → (ps.map (·.1)).Nodup → ∃ cs', Instr.fill (fun i => some (i * size, size)) cs (ps.map fun (i, x) => (i, a.eval x)) = some cs' ∧ RRows Q w size len (rowsL l H) cs' := by
  intro ps
  induction ps with
  | nil =>
    intro l H cs hp hr _ _
    cases hp
    exact ⟨cs, rfl, hr⟩
  | cons p ps ih =>
    intro l H cs hp hr hlt hn
    cases hp with
    | cons h1 h2 t =>
      rename_i r x g l
      simp only [List.map_cons, List.nodup_cons] at hn
      have hrl : r < len := hlt (r, x) (by simp)
      have hfit : r * size + size ≤ len * size := by
        have : (r + 1) * size ≤ len * size := Nat.mul_le_mul_right _ hrl
        rw [Nat.add_mul, Nat.one_mul] at this
        exact this
      have hf := fold_set (a.eval x).cells.toList 0 (r * size) cs
      have e : (a.eval x).cells.zipIdx.foldl (fun cs (c, j) => cs.setIfInBounds (r * size + j) c) cs = ((a.eval x).cells.toList.zipIdx 0).foldl (fun cs (c, j) => cs.setIfInBounds (r * size + j) c) cs := by
        rw [← Array.foldl_toList, Array.toList_zipIdx]
      have hr' : RRows Q w size len (fun i j => bif Nat.beq i r then g j else H i j) ((a.eval x).cells.zipIdx.foldl (fun cs (c, j) => cs.setIfInBounds (r * size + j) c) cs) := by
        rw [e]
        refine ⟨hf.1.trans hr.1, fun i hi j hj => ?_⟩
        rw [hf.2]
        simp only [Nat.add_zero, Array.length_toList, Array.getElem?_toList, h1]
        have hk := idx_lt hi hj
        by_cases hir : i = r
        · subst hir
          rw [if_pos ⟨by omega, by omega, by rw [hr.1]; exact hk⟩, show i * size + j - i * size = j by omega]
          obtain ⟨u, hu, ho, hrc⟩ := h2 j hj
          exact ⟨u, hu, ho, by simpa using hrc⟩
        · rw [if_neg]
          · obtain ⟨u, hu, ho, hrc⟩ := hr.2 i hi j hj
            exact ⟨u, hu, ho, by rw [beq_ne hir]; exact hrc⟩
          · intro hh
            exact hir (idx_row hj (show i * size + j - r * size < size by omega) (by omega)).1
      obtain ⟨cs', hf', hr''⟩ := ih l _ _ t hr' (fun p hp => hlt p (by simp [hp])) hn.2
      refine ⟨cs', ?_, ?_⟩
      · simp only [List.map_cons, Instr.fill]
        rw [if_neg (by simp; exact ⟨h1, by rw [h1, hr.1]; exact hfit⟩)]
        exact hf'
      · have hl : r ∉ l.map (·.1) := by
          have : ∀ (ps : List (Nat × Operand)) (l : List (Nat × (Nat → Cell))), PR Q w a size ps l → l.map (·.1) = ps.map (·.1) := by
            intro ps l h
            induction h with
            | nil => rfl
            | cons _ _ _ ih => simp [ih]
          rw [this _ _ t]
          exact hn.1
        refine ⟨hr''.1, fun i hi j hj => ?_⟩
        have := hr''.2 i hi j hj
        rw [rowsL_skip l hl] at this
        exact this
def nodupB : List Nat → Bool
  | [] => true
  | x :: r => !(r.contains x) && nodupB r
theorem nodupB_eq : ∀ {l : List Nat}, nodupB l = true → l.Nodup
  | [], _ => List.nodup_nil
  | x :: r, h => by
    simp only [nodupB, Bool.and_eq_true, Bool.not_eq_true'] at h
    exact List.nodup_cons.2 ⟨fun hm => by simp [hm] at h, nodupB_eq h.2⟩
def cBuildS (P : Program) (op : Op) (size len : Nat) (z : List Cst) (parts : List (Nat × Opd)) : Bool :=
  match op with
  | .buildSlice t l ps => (match slE P t with
    | some e => chkZero P e z
    | none => false) && Nat.beq l len && Nat.beq z.length size && Nat.ble 1 size && Nat.ble (len * size) 16777216 && chkPs len ps.toList parts && nodupB (ps.toList.map (·.1))
  | _ => false
theorem chkPs_lt {len : Nat} : ∀ {ps : List (Nat × Operand)} {qs : List (Nat × Opd)}, chkPs len ps qs = true → ∀ p ∈ ps, p.1 < len
  | [], _, _, p, hp => absurd hp (by simp)
  | (i, x) :: ps, [], h, _, _ => absurd h (by simp [chkPs])
  | (i, x) :: ps, (j, y) :: qs, h, p, hp => by
    simp only [chkPs, Bool.and_eq_true] at h
    rcases List.mem_cons.1 hp with rfl | hp
    · exact Nat.le_of_ble_eq_true h.1.1.2
    · exact chkPs_lt h.2 p hp
theorem run_buildSlice {t e : TypeId} {i : TypeInfo} {zv : Value} {len : Nat} {parts : Array (Nat × Value)} {cs : Array Value} (hu : P.underlying t = some (.slice e)) (hi : P.info? e = some i) (hz : i.zero = some zv) (h24 : len * i.size ≤ 16777216)
    (hf : Instr.fill (fun k => some (k * i.size, i.size)) (madeCells zv.cells (len * i.size)) parts.toList = some cs) :
    (Instr.buildSlice t len parts).run P w = .ok (.slice (some ⟨w.heap.size, 0, none⟩) len len) (w.alloc (.cells cs e)) := by
  have h24' : ¬ (16777216 < len * i.size) := by omega
  by_cases hl0 : len * i.size = 0
  · rw [hl0] at hf
    have hm : ∀ z : Array Value, madeCells z 0 = #[] := fun z => by simp [madeCells, Array.range_zero']
    rw [hm] at hf
    have hf2 : Instr.fill (fun k => some (k * i.size, i.size)) ((Array.range (len * i.size)).map ((#[] : Array Value)[· % (#[] : Array Value).size]!)) parts.toList = some cs := by
      rw [hl0]; simpa [Array.range_zero'] using hf
    unfold Instr.buildSlice
    simp only [Sem.run_bind, run_underlying hu, Result.andThen_ok, run_sizeOf hi]
    rw [if_neg (by omega)]
    simp only [hl0, if_true, Sem.run_bind, Sem.run_pure, Result.andThen_ok, Nat.zero_mul]
    rw [hl0] at hf2
    simp only [hf2, newRow, Sem.run_bind, run_newObj, Sem.run_pure, Result.andThen_ok]
    rfl
  · have hf2 : Instr.fill (fun k => some (k * i.size, i.size)) ((Array.range (len * i.size)).map (zv.cells[· % zv.cells.size]!)) parts.toList = some cs := hf
    unfold Instr.buildSlice
    simp only [Sem.run_bind, run_underlying hu, Result.andThen_ok, run_sizeOf hi]
    rw [if_neg (by omega)]
    simp only [hl0, if_false, Sem.run_bind, Sem.run_pure, Result.andThen_ok, zeroValue, typeInfo, run_program, hi, hz]
    simp only [hf2, newRow, Sem.run_bind, run_newObj, Sem.run_pure, Result.andThen_ok]
    rfl
theorem e_buildS (h : Rel O W N ⟨fr, hp, gc⟩ a w be) {size len : Nat} {z : List Cst} {parts : List (Nat × Opd)} (hc : cBuildS P o.op size len z parts = true) (hl : (eff (.buildS size len z parts) d True ⟨fr, hp, gc⟩).run L) :
    ∃ δ, L δ ∧ Ef P O W N fr hp gc a o w δ := by
  unfold cBuildS at hc
  split at hc
  case h_2 => exact absurd hc (by decide)
  rename_i t l ps ho
  simp only [Bool.and_eq_true] at hc
  obtain ⟨⟨⟨⟨⟨⟨hsl, hlen⟩, hz⟩, hpos⟩, hbig⟩, hps⟩, hnd⟩ := hc
  obtain rfl := beqN hlen
  obtain rfl := beqN hz
  have hpos := Nat.le_of_ble_eq_true hpos
  have hbig := Nat.le_of_ble_eq_true hbig
  have hnd := nodupB_eq hnd
  split at hsl
  case h_2 => exact absurd hsl (by decide)
  rename_i e he
  have hu := slE_eq he
  obtain ⟨i, zv, hi, hzv, hzz, hsz⟩ := chkZero_eq hsl
  simp only [eff_eq, effS, M.run_bind] at hl
  obtain ⟨pl, hs, hl, _, p⟩ := partsL_run parts ps.toList hp _ hps hl
  obtain ⟨f1, r1⟩ := p (O := O) (W := W) (N := N) (a := a) (w := w) (be := be)
  have h1 := f1.rel h
  have pr := r1 h
  have hmade := row_made (be := be) (gc := gc) (w := w) (Q := own O be ⟨fr, putH hs hp, gc⟩) hzz hpos l l (Nat.le_refl _) _ rfl true
  have hr0 : RRows (own O be ⟨fr, putH hs hp, gc⟩) w z.length l (fun _ j => cells z j) (madeCells zv.cells (l * z.length)) :=
    ⟨size_madeCells _ _, fun i hi j hj => by
      obtain ⟨u, hu, hr⟩ := hmade.cont i hi j hj
      exact ⟨u, hu, hmade.one _ u hu, mkC_RC hr hj⟩⟩
  obtain ⟨cs, hfill, hrows⟩ := fillS ps.toList pl _ _ pr hr0 (chkPs_lt hps) hnd
  have row : Row be gc (own O be ⟨fr, putH hs hp, gc⟩) w ⟨z.length, l, .dat (rowsL pl fun _ j => cells z j), false, true⟩ cs (0, 0) := by
    refine ⟨by simp only; rw [hrows.1]; exact Nat.le_refl _, fun k _ h => by omega, fun _ => rfl, fun k u hu => ?_, fun i hi j hj => ?_⟩
    · have hk : k < l * z.length := by
        rcases Nat.lt_or_ge k (l * z.length) with h' | h'
        · exact h'
        · rw [Array.getElem?_eq_none (by rw [hrows.1]; exact h')] at hu; exact absurd hu (by simp)
      have hd : k / z.length < l := Nat.div_lt_of_lt_mul (by rw [Nat.mul_comm]; exact hk)
      obtain ⟨u', hu', ho, _⟩ := hrows.2 (k / z.length) hd (k % z.length) (Nat.mod_lt _ hpos)
      rw [Nat.div_add_mod' k z.length, hu] at hu'
      rw [Option.some.inj hu']; exact ho
    · obtain ⟨u, hu, _, hr⟩ := hrows.2 i hi j hj
      exact ⟨u, hu, hr⟩
  have hrun : (execOp a.eval o).run P w = .ok (.value (.slice (some ⟨w.heap.size, 0, none⟩) l l)) (w.alloc (.cells cs e)) := by
    have := run_buildSlice (P := P) (w := w) (len := l) (parts := ps.map fun (i, x) => (i, a.eval x)) (cs := cs) hu hi hzv (by rw [hsz]; omega) (by rw [hsz, Array.toList_map]; exact hfill)
    simp only [execOp, ho, Sem.run_bind, this, Result.andThen_ok, Sem.run_pure]
  obtain ⟨be', hrel, hb, k⟩ := h1.new1 (d := d) (below_alloc w (.cells cs e)) (Nat.le_refl _) (heap_alloc_new' w _) row
  refine ⟨_, hl, _, _, be', hrun, ?_, ?_⟩
  · simp only [putH_append]; exact hrel
  · simp only [putH_append]
    exact ra_os_new (by show gc d + 1 ≤ bump gc d d; rw [bump_same]; exact Nat.le_refl _) hb (heap_alloc_new' w _) (Nat.le_refl _) (by
      have : l ≤ l * z.length := Nat.le_mul_of_pos_right _ hpos
      omega) (by rw [hrows.1]; exact Nat.le_refl _)
end
end Lk
namespace Lk
open Go Go.RowKit
section
variable {P : Program} {O : Nat → Prop} {W : World} {N : Nat} {fr : Nat → AV} {hp : Nat → Option Ent} {gc : Nat → Nat} {a : Act} {w : World} {be : Nm} {o : Oper} {d : Nat} {L : Dl → Prop}
structure Src (P : Program) (Q : Nat → Prop) (w : World) (size m : Nat) (g : Nat → Nat → Cell) (x : Value) (news : List Value) : Prop where
  len : news.length = m * size
  lenOf : ∀ w', (Builtin.lenOf x).run P w' = .ok m w'
  cells : ∀ w' : World, (∀ k, k < w.heap.size → w'.heap[k]? = w.heap[k]?) → (Builtin.firstCells size m x).run P w' = .ok news.toArray w'
  one : ∀ u ∈ news, u.oneCell' = true
  reads : ∀ i, i < m → ∀ j, j < size → ∃ u, news[i * size + j]? = some u ∧ RC Q w (g i j) u
theorem src_cells {Q : Nat → Prop} {size m cap b off : Nat} {g : Nat → Nat → Cell} (hpos : 0 < size)
    (h : ∀ i, i < m → ∀ j, j < size → ∃ u, w.cell? ⟨b, off + i * size + j, none⟩ = some u ∧ RC Q w (g i j) u) : ∃ news, Src P Q w size m g (.slice (some ⟨b, off, none⟩) m cap) news := by
  let f : Nat → Value := fun k => (w.cell? ⟨b, off + k, none⟩).getD Go.undef
  have hget : ∀ k, k < m * size → ∃ u, w.cell? ⟨b, off + k, none⟩ = some u ∧ RC Q w (g (k / size) (k % size)) u := fun k hk => by
    have hd : k / size < m := Nat.div_lt_of_lt_mul (by rw [Nat.mul_comm]; exact hk)
    obtain ⟨u, hu, hr⟩ := h (k / size) hd (k % size) (Nat.mod_lt _ hpos)
    refine ⟨u, ?_, hr⟩
    rw [Nat.add_assoc, Nat.div_add_mod' k size] at hu
    exact hu
  have hf : ∀ k, k < m * size → w.cell? ⟨b, off + k, none⟩ = some (f k) := fun k hk => by
    obtain ⟨u, hu, _⟩ := hget k hk
    show _ = some ((w.cell? ⟨b, off + k, none⟩).getD Go.undef)
    rw [hu]; rfl
  refine ⟨(List.range (m * size)).map f, by simp, fun w' => by simp [Builtin.lenOf], fun w' hw' => ?_, fun u hu => ?_, fun i hi j hj => ?_⟩
  · refine run_firstCells_some w' size m ⟨b, off, none⟩ m cap _ (by simp) (fun k v hv => ?_)
    have hk : k < m * size := by
      have := (List.getElem?_eq_some_iff.1 hv).1
      simpa using this
    have hfk : v = f k := by simp [hk] at hv; exact hv.symm
    rw [hfk, addr_add]
    have hc := hf k hk
    rw [World.cell?_of_block (w := w) (w' := w') (a := ⟨b, off + k, none⟩) (hw' b (World.block_lt_of_cell? _ _ hc))]
    exact hc
  · obtain ⟨k, hk, rfl⟩ := List.mem_map.1 hu
    obtain ⟨u', hu', hr⟩ := hget k (by simpa using hk)
    have := hf k (by simpa using hk)
    rw [hu'] at this
    rw [← Option.some.inj this]
    exact RC_one hr
  · have hk := idx_lt hi hj
    obtain ⟨u, hu, hr⟩ := h i hi j hj
    refine ⟨u, ?_, hr⟩
    have := hf _ hk
    rw [← Nat.add_assoc, hu] at this
    simp [hk, ← Option.some.inj this]
theorem src_nil {Q : Nat → Prop} {size cap : Nat} {g : Nat → Nat → Cell} {p : Option Addr} : Src P Q w size 0 g (.slice p 0 cap) [] := by
  refine ⟨by simp, fun w' => by simp [Builtin.lenOf], fun w' _ => ?_, fun u hu => absurd hu (by simp), fun i hi => absurd hi (by omega)⟩
  cases p with
  | none => simp [Builtin.firstCells]
  | some a => simp [Builtin.firstCells, loadCells, loadCellsFrom]
theorem srcV_run {α : Type} {size : Nat} {v : AV} {K : Nat → (Nat → Nat → Cell) → M α} {L : α → Prop} (hpos : 0 < size) (h : (srcV hp gc size v K).run L) :
    ∃ m g, (K m g).run L ∧ ∀ {O W N fr a w be}, Rel O W N ⟨fr, hp, gc⟩ a w be → ∀ x, RA be gc (own O be ⟨fr, hp, gc⟩) w v x → ∃ news, Src P (own O be ⟨fr, hp, gc⟩) w size m g x news := by
  rw [srcV_eq] at h
  unfold srcV0 at h
  split at h
  · exact ⟨0, _, h, fun {_ _ _ _ _ _ _} _ x hx => by rw [show x = .slice none 0 0 from hx]; exact ⟨[], src_nil⟩⟩
  · rename_i sz n f
    rw [M.run_iff'] at h
    obtain ⟨hz, h⟩ := h
    obtain rfl := beqN hz
    refine ⟨n, f, h, fun {_ _ _ _ _ _ _} _ x hx => ?_⟩
    rcases hx with ⟨rfl, p, rfl⟩ | ⟨b, off, cap, rfl, _, _, hcells⟩
    · exact ⟨[], src_nil⟩
    · exact src_cells hpos fun i hi j hj => (hcells i hi j hj).2
  · rename_i s q sz off len
    replace h := getE_run h
    obtain ⟨rfl, e, hse, h⟩ := h
    rw [M.run_iff', M.run_need] at h
    simp only [Bool.and_eq_true] at h
    obtain ⟨⟨hz1, hz2⟩, hle, h⟩ := h
    have hz1 := beqN hz1
    obtain rfl := beqN hz2
    have key : ∀ (g : Nat → Nat → Cell) {O W N fr a w be}, Rel O W N ⟨fr, hp, gc⟩ a w be → (∀ i, i < len → ∀ j, j < sz → ∀ u, RA be gc (own O be ⟨fr, hp, gc⟩) w (e.c.at (off + i) j) u → RC (own O be ⟨fr, hp, gc⟩) w (g i j) u) →
        ∀ x, RA be gc (own O be ⟨fr, hp, gc⟩) w (.os s (gc s) sz off len) x → ∃ news, Src P (own O be ⟨fr, hp, gc⟩) w sz len g x news := by
      intro g O W N fr a w be r hg x hx
      rcases hx.2 with ⟨_, _, rfl, rfl⟩ | ⟨b, oo, cap, cs, el, fz, hb, rfl, hc1, hc2, hc3, hh, hc4⟩
      · exact ⟨[], src_nil⟩
      · refine src_cells hpos fun i hi j hj => ?_
        obtain ⟨u, hu, _, hr⟩ := ent_at r.ent hse hb (row := off + i) (col := j) (by omega) (by omega)
        refine ⟨u, ?_, hg i hi j hj u hr⟩
        rw [hc3 (by omega), ← Nat.add_mul, ← hz1]
        exact hu
    split at h
    · rename_i c hc
      exact ⟨len, _, h, fun {_ _ _ _ _ _ _} r x hx => key _ r (fun i hi j hj u hu => by rw [hc] at hu; exact hu) x hx⟩
    · rename_i c hc
      exact ⟨len, _, h.r, fun {_ _ _ _ _ _ _} r x hx => key _ r (fun i hi j hj u hu => by rw [hc] at hu; exact isDat_RC (h.l i hi j hj) hu) x hx⟩
    · exact h.elim
  · exact h.elim
section
variable {t ty e : TypeId} {i : TypeInfo} {z : Value} (ht : P.underlying t = some (.slice e)) (hi : P.info? e = some i)
include ht hi
theorem run_app_room {base : Option Addr} {sLen sCap m : Nat} {x : Value} {news : List Value} {w' : World} (hlen : ∀ w', (Builtin.lenOf x).run P w' = .ok m w') (hf : (Builtin.firstCells i.size m x).run P w = .ok news.toArray w) (hroom : sLen + m ≤ sCap)
    (hst : ∀ b, base = some b → (storeCells (b.add (sLen * i.size)) news).run P w = .ok () w') (hno : base = none → w' = w) :
    (Builtin.append_ #[t, t] ty #[.slice base sLen sCap, x]).run P w = .ok (.slice base (sLen + m) sCap) w' := by
  cases base with
  | none =>
    rw [hno rfl]
    simp [Builtin.append_, run_underlying ht, Go.sizeOf, typeInfo, hi, hlen, hroom, hf]
  | some b => simp [Builtin.append_, run_underlying ht, Go.sizeOf, typeInfo, hi, hlen, hroom, hf, hst b rfl]
theorem run_app_grow (hz : i.zero = some z) {base : Option Addr} {sLen sCap m : Nat} {x : Value} {olds news : List Value} (hlen : ∀ w', (Builtin.lenOf x).run P w' = .ok m w')
    (hfo : (Builtin.firstCells i.size sLen (.slice base sLen sCap)).run P w.drew = .ok olds.toArray w.drew) (hf : (Builtin.firstCells i.size m x).run P w.drew = .ok news.toArray w.drew)
    (hg : sCap < sLen + m) (h63 : sLen + m ≤ 9223372036854775807) (hfit : Builtin.nextslicecap (sLen + m) sCap * i.bytes ≤ 281474976710656) :
    (Builtin.append_ #[t, t] ty #[.slice base sLen sCap, x]).run P w =
      .ok (.slice (some ⟨w.heap.size, 0, none⟩) (sLen + m) (grownCap w (sLen + m) sCap e))
        (w.drew.alloc (.cells (olds.toArray ++ news.toArray ++ Builtin.zeroCells z.cells (grownCap w (sLen + m) sCap e - (sLen + m))) e)) := by
  have hroom : ¬ (sLen + m ≤ sCap) := by omega
  have h63' : ¬ (9223372036854775807 < ((sLen : Int) + (m : Int))) := by omega
  have h48' : ¬ (281474976710656 < Builtin.nextslicecap (sLen + m) sCap * i.bytes) := by omega
  simp [Builtin.append_, run_underlying ht, Go.sizeOf, typeInfo, zeroValue, hi, hz, hlen, hroom, h63', h48', Question.forced, hf, hfo, newRow, grownCap]
  congr 2
  apply Array.ext'
  simp [List.append_assoc]
end
theorem zeroCells_one {z : Array Value} (hz : ∀ (j : Nat) (u : Value), z[j]? = some u → u.oneCell' = true) (n : Nat) : ∀ (k : Nat) (u : Value), (Builtin.zeroCells z n)[k]? = some u → u.oneCell' = true := by
  intro k u hu
  unfold Builtin.zeroCells at hu
  rw [Array.getElem?_map] at hu
  have hk : k < n * z.size := by
    rcases Nat.lt_or_ge k (n * z.size) with h' | h'
    · exact h'
    · rw [Array.getElem?_eq_none (by simpa using h')] at hu; exact absurd hu (by simp)
  rw [Array.getElem?_eq_getElem (by simpa using hk)] at hu
  simp only [Array.getElem_range, Option.map_some, Option.some.injEq] at hu
  subst hu
  have hp : 0 < z.size := by
    rcases Nat.eq_zero_or_pos z.size with h0 | h0
    · rw [h0] at hk; omega
    · exact h0
  have hm : k % z.size < z.size := Nat.mod_lt _ hp
  rw [getElem!_pos z (k % z.size) hm]
  exact hz (k % z.size) _ (Array.getElem?_eq_getElem hm)
theorem row_grown {Q : Nat → Prop} {size len m : Nat} {c : EC} {g : Nat → Nat → Cell} {olds news : List Value} {zs : Array Value} {e' : EC} (ho : olds.length = len * size) (hn : news.length = m * size)
    (ho1 : ∀ u ∈ olds, u.oneCell' = true) (hn1 : ∀ u ∈ news, u.oneCell' = true) (hz1 : ∀ (k : Nat) (u : Value), zs[k]? = some u → u.oneCell' = true)
    (hor : ∀ i, i < len → ∀ j, j < size → ∃ u, olds[i * size + j]? = some u ∧ RA be gc Q w (c.at i j) u)
    (hnr : ∀ i, i < m → ∀ j, j < size → ∃ u, news[i * size + j]? = some u ∧ RC Q w (g i j) u)
    (he : ∀ i j, e'.at i j = if len ≤ i then .c (g (i - len) j) else c.at i j) : Row be gc Q w ⟨size, len + m, e', false, true⟩ (olds.toArray ++ news.toArray ++ zs) (0, 0) := by
  refine ⟨?_, fun k _ h => by omega, fun _ => rfl, fun k u hu => ?_, fun i hi j hj => ?_⟩
  · simp only [Array.size_append, List.size_toArray, ho, hn, Nat.add_mul]; omega
  · rw [Array.getElem?_append] at hu
    split at hu
    · rw [Array.getElem?_append] at hu
      split at hu
      · exact ho1 u (List.mem_of_getElem? (by simpa using hu))
      · exact hn1 u (List.mem_of_getElem? (by simpa using hu))
    · exact hz1 _ u hu
  · simp only at hi hj ⊢
    rw [he i j]
    have hk := idx_lt hi hj
    rw [Nat.add_mul] at hk
    rw [Array.getElem?_append_left (by simp only [Array.size_append, List.size_toArray, ho, hn]; exact hk)]
    by_cases hil : len ≤ i
    · have hk2 : len * size ≤ i * size := Nat.mul_le_mul_right _ hil
      obtain ⟨u, hu, hr⟩ := hnr (i - len) (by omega) j hj
      refine ⟨u, ?_, by rw [if_pos hil]; exact hr⟩
      rw [Array.getElem?_append_right (by simp only [List.size_toArray, ho]; omega)]
      simp only [List.size_toArray, ho, List.getElem?_toArray]
      rw [show i * size + j - len * size = (i - len) * size + j by rw [Nat.sub_mul]; omega]
      exact hu
    · have hk2 := idx_lt (size := size) (show i < len by omega) hj
      obtain ⟨u, hu, hr⟩ := hor i (by omega) j hj
      refine ⟨u, ?_, by rw [if_neg hil]; exact hr⟩
      rw [Array.getElem?_append_left (by simp only [List.size_toArray, ho]; exact hk2)]
      simpa using hu
theorem Rel.renew (h : Rel O W N ⟨fr, hp, gc⟩ a w be) {s : Nat} {e : Ent} (hs : hp s = some e) :
    ∃ be', Rel O W N ⟨fr, hp, bump gc s⟩ a w be' ∧ be' s (gc s + 1) = be s (gc s) := by
  let be' : Nm := fun s' q => if s' = s ∧ q = gc s + 1 then be s (gc s) else be s' q
  have hold : ∀ s' q, q ≤ gc s' → be' s' q = be s' q := fun s' q hq => by
    simp only [be']; rw [if_neg]; rintro ⟨rfl, rfl⟩; omega
  have hnew : be' s (gc s + 1) = be s (gc s) := by simp [be']
  have hcur : ∀ s', be' s' (bump gc s s') = be s' (gc s') := fun s' => by
    by_cases hss : s' = s
    · subst hss; rw [bump_same]; exact hnew
    · rw [bump_ne _ hss]; exact hold _ _ (Nat.le_refl _)
  have hown : ∀ b, own O be' ⟨fr, hp, bump gc s⟩ b → own O be ⟨fr, hp, gc⟩ b := fun b hb => by
    rcases hb with hb | ⟨s', e', h1, h2, h3⟩
    · exact .inl hb
    · exact .inr ⟨s', e', h1, h2, by simp only [hcur] at h3; exact h3⟩
  have k : Keeps be gc (own O be ⟨fr, hp, gc⟩) w be' (bump gc s) (own O be' ⟨fr, hp, bump gc s⟩) w := by
    refine ⟨fun s' => ?_, fun s' q hq => hold s' q hq, fun b _ ho => hown b ho, fun _ _ _ _ h => h, fun _ cs el fz h => ⟨cs, el, fz, h, rfl⟩⟩
    by_cases hss : s' = s
    · subst hss; rw [bump_same]; omega
    · rw [bump_ne _ hss]; exact Nat.le_refl _
  refine ⟨be', ⟨h.size, h.defers, h.below, h.outer, fun s' q b hb => ?_, h.slots k, fun s' e' he' => ?_, fun s1 s2 e1 e2 b h1 h2 h3 h4 h5 => ?_⟩, hnew⟩
  · simp only [be'] at hb
    split at hb
    · exact h.names _ _ _ hb
    · exact h.names _ _ _ hb
  · have := h.ent s' e' he'
    unfold EntOk at this ⊢
    simp only [hcur]
    rcases this with h' | ⟨b, cs, el, fz, h1, h2, h3, h4⟩
    · exact .inl h'
    · exact .inr ⟨b, cs, el, fz, h1, h2, h3, h4.keep k⟩
  · simp only [hcur] at h3 h4
    exact h.dist s1 s2 e1 e2 b h1 h2 h3 h4 h5
def cApp (P : Program) (op : Op) (size bytes : Nat) (x y : Opd) : Bool :=
  match op with
  | .call c => (match c.callee with
    | .builtin .append => true
    | _ => false) && (match c.args.toList with
    | [x', y'] => chkX x' x && chkX y' y
    | _ => false) && (match c.argTypes.toList with
    | [t, t'] => Nat.beq t t' && (match slE P t with
      | some e => (match P.info? e with
        | some i => Nat.beq i.size size && Nat.beq i.bytes bytes && (match i.zero with
          | some z => z.cells.toList.all (·.oneCell') && Nat.beq z.cells.size size
          | none => false)
        | none => false)
      | none => false)
    | _ => false) && Nat.ble 1 size
  | _ => false
theorem toList_two {α : Type} {xs : Array α} {x y : α} (h : xs.toList = [x, y]) : xs = #[x, y] := by
  cases xs; simp only at h; rw [h]
theorem cApp_run {size bytes : Nat} {x y : Opd} (hc : cApp P o.op size bytes x y = true) : ∃ x' y' t e i z, chkX x' x = true ∧ chkX y' y = true ∧ P.underlying t = some (.slice e) ∧ P.info? e = some i ∧ i.size = size ∧ i.bytes = bytes ∧ i.zero = some z ∧ 0 < size ∧ z.cells.size = size ∧
    (∀ (j : Nat) (u : Value), z.cells[j]? = some u → u.oneCell' = true) ∧ ∀ (a : Act) (w : World) u w', (∀ ty, (Builtin.append_ #[t, t] ty #[a.eval x', a.eval y']).run P w = .ok u w') → (execOp a.eval o).run P w = .ok (.value u) w' := by
  unfold cApp at hc
  split at hc
  case h_2 => exact absurd hc (by decide)
  rename_i c ho
  simp only [Bool.and_eq_true] at hc
  obtain ⟨⟨⟨hcal, harg⟩, hty⟩, hpos⟩ := hc
  split at hcal
  case h_2 => exact absurd hcal (by decide)
  rename_i hcal'
  split at harg
  case h_2 => exact absurd harg (by decide)
  rename_i x' y' hx'
  simp only [Bool.and_eq_true] at harg
  split at hty
  case h_2 => exact absurd hty (by decide)
  rename_i t t' ht
  simp only [Bool.and_eq_true] at hty
  obtain ⟨htt, hty⟩ := hty
  obtain rfl := beqN htt
  split at hty
  case h_2 => exact absurd hty (by decide)
  rename_i e he
  split at hty
  case h_2 => exact absurd hty (by decide)
  rename_i i hi
  simp only [Bool.and_eq_true] at hty
  obtain ⟨⟨h1, h2⟩, h3⟩ := hty
  split at h3
  case h_2 => exact absurd h3 (by decide)
  rename_i z hz
  simp only [Bool.and_eq_true, List.all_eq_true] at h3
  refine ⟨x', y', t, e, i, z, harg.1, harg.2, slE_eq he, hi, beqN h1, beqN h2, hz, Nat.le_of_ble_eq_true hpos, beqN h3.2, fun j u hu => h3.1 u ?_, fun a w u w' hrun => ?_⟩
  · exact List.mem_of_getElem? (by simpa using hu)
  · simp [execOp, ho, resolve, hcal', toList_two hx', toList_two ht, invoke, builtin, hrun]
theorem appC_at {α : Type} (c : Nat → Nat → α) (len : Nat) (g : Nat → Nat → α) (i j : Nat) : appC c len g i j = if len ≤ i then g (i - len) j else c i j := by
  unfold appC
  by_cases h : len ≤ i
  · rw [if_pos h, Nat.ble_eq_true_of_le h]; rfl
  · rw [if_neg h]
    have : Nat.ble len i = false := by
      cases hb : Nat.ble len i with
      | false => rfl
      | true => exact absurd (Nat.le_of_ble_eq_true hb) h
    rw [this]; rfl
theorem e_app (h : Rel O W N ⟨fr, hp, gc⟩ a w be) {size bytes : Nat} {x y : Opd} (hc : cApp P o.op size bytes x y = true) (hl : (eff (.app size bytes x y) d True ⟨fr, hp, gc⟩).run L) :
    ∃ δ, L δ ∧ Ef P O W N fr hp gc a o w δ := by
  obtain ⟨x', y', t, e, i, z, hx, hy, ht, hi, hsz, hby, hz, hpos, hzs, hz1, run⟩ := cApp_run hc
  simp only [eff_eq, effS, M.run_bind] at hl
  replace hl := rd_sound h.slot hx hl
  obtain ⟨v, hl, hv⟩ := hl
  replace hv := hv trivial
  replace hl := rd_sound h.slot hy hl
  obtain ⟨u, hl, hu⟩ := hl
  replace hu := hu trivial
  replace hl := srcV_run (P := P) hpos hl
  obtain ⟨m, g, hl, src⟩ := hl
  obtain ⟨news, hsrc⟩ := src h (a.eval y') hu
  subst hsz hby
  -- from nothing
  have fresh : ∀ (s : Nat), a.eval x' = .slice none 0 0 → m * i.bytes ≤ 140737488355328 → m ≤ 140737488355328 → ∀ e', (∀ k j, e'.at k j = .c (g k j)) → Ef P O W N fr hp gc a o w (.sli ⟨fr, hp, gc⟩ s i.size m e' true) := by
    intro s e1 hb1 hb2 e' he'
    by_cases hm : m = 0
    · subst hm
      have hn : news = [] := List.eq_nil_of_length_eq_zero (by simpa using hsrc.len)
      have hrun := run _ w _ w (fun ty => by rw [e1]; exact run_app_room ht hi (ty := ty) (sCap := 0) hsrc.lenOf (hsrc.cells w fun _ _ => rfl) (Nat.le_refl _) (fun b hb => absurd hb (by simp)) fun _ => rfl)
      have hn' : News w w [(s, ⟨i.size, 0, e', false, true⟩)] (fun _ => none) := ⟨by simp [sitesOf], Below.refl _ _, fun _ _ _ hb => absurd hb (by simp), fun _ _ _ _ _ hb => absurd hb (by simp)⟩
      refine ⟨w, _, _, hrun, h.news hn' fun s' e'' he'' => ?_, ?_⟩
      · replace he'' : (s', e'') ∈ [(s, (⟨i.size, 0, e', false, true⟩ : Ent))] := he''
        simp only [List.mem_singleton, Prod.mk.injEq] at he''
        obtain ⟨rfl, rfl⟩ := he''
        exact .inl ⟨rfl, rfl⟩
      · have hm : s ∈ sitesOf [(s, (⟨i.size, 0, e', false, true⟩ : Ent))] := by simp [sitesOf]
        refine ⟨?_, .inl ⟨nmU_new hm, rfl, rfl, rfl⟩⟩
        show gc s + 1 ≤ bump gc s s
        rw [bump_same]; exact Nat.le_refl _
    · have hrun := run _ w _ _ (fun ty => by rw [e1]; exact run_app_grow ht hi (ty := ty) hz (sLen := 0) (sCap := 0) (olds := []) hsrc.lenOf (by simp [Builtin.firstCells]) (hsrc.cells w.drew fun _ _ => rfl) (by omega) (by omega) (by rw [Nat.zero_add]; exact growslice_fits (by omega) hb1))
      simp only [Nat.zero_add] at hrun
      have hcap := grownCap_ge w m 0 e
      have hcapM := grownCap_le_maxLen w m 0 e (by unfold maxLen; omega)
      have row := row_grown (be := be) (gc := gc) (w := w) (Q := own O be ⟨fr, hp, gc⟩) (size := i.size) (len := 0) (c := e') (e' := e') (g := g) (olds := []) (zs := Builtin.zeroCells z.cells (grownCap w m 0 e - m)) (by simp) hsrc.len (by simp) hsrc.one (zeroCells_one hz1 _) (fun k hk => absurd hk (by omega)) hsrc.reads
        (fun k j => by rw [if_pos (Nat.zero_le _), he']; rfl)
      rw [Nat.zero_add] at row
      have hnew := heap_alloc_new w.drew (.cells (([] : List Value).toArray ++ news.toArray ++ Builtin.zeroCells z.cells (grownCap w m 0 e - m)) e)
      exact ef_row h (below_drew_alloc w _) hnew row hrun fun be' hb' => ra_os_new (by rw [bump_same]; exact Nat.le_refl _) hb' hnew hcap (by unfold maxLen at hcapM; omega) (by
        simp only [Array.size_append, List.size_toArray, List.length_nil, hsrc.len, size_zeroCells, hzs, Nat.zero_add, ← Nat.add_mul]
        exact Nat.mul_le_mul_right _ (by omega))
  split at hl
  · exact ⟨_, hl.r, fresh d hv hl.l.1 hl.l.2 _ fun k j => rfl⟩
  · rename_i s q sz off len
    replace hl := getE_run hl
    obtain ⟨rfl, en, hse, hl⟩ := hl
    rw [M.run_iff'] at hl
    simp only [Bool.and_eq_true] at hl
    obtain ⟨⟨⟨hz1', hz2⟩, hap⟩, hl⟩ := hl
    have hens := beqN hz1'
    obtain rfl := beqN hz2
    unfold isUn at hl
    cases hfz : en.fz with
    | true => rw [hfz] at hl; exact absurd hl id
    | false =>
      rw [hfz] at hl
      simp only [cond_false] at hl
      obtain ⟨rfl, hlen⟩ := hl.l
      obtain ⟨hb1, hb2⟩ := hl.r.l
      replace hl := hl.r.r
      -- whatever stands there
      have main : ∀ e', (∀ c, en.c ≠ .var c) → (∀ k j, e'.at k j = if len ≤ k then .c (g (k - len) j) else en.c.at k j) → Ef P O W N fr hp gc a o w (.sli ⟨fr, hp, gc⟩ s i.size (len + m) e' true) := by
        intro e' _ he'
        rcases hv.2 with ⟨hb, _, rfl, e1⟩ | ⟨b, oo, cap, cs, el, fz, hb, e1, hc1, hc2, hc3, hh, hc4⟩
        · rw [Nat.zero_add] at *
          exact fresh s e1 hb1 hb2 e' fun k j => by rw [he', if_pos (Nat.zero_le _)]; rfl
        · have hent : ∃ fz', Row be gc (own O be ⟨fr, hp, gc⟩) w en cs fz' ∧ w.heap[b]? = some (.cells cs el fz') ∧ W.heap.size ≤ b := by
            rcases h.ent s en hse with ⟨h0, _⟩ | ⟨b', cs', el', fz', h1, h2, h3, h4⟩
            · rw [show be s (gc s) = some b from hb] at h0; exact absurd h0 (by simp)
            · rw [show be s (gc s) = some b from hb] at h1
              obtain rfl := Option.some.inj h1
              rw [hh] at h3
              obtain ⟨rfl, rfl, rfl⟩ : cs = cs' ∧ el = el' ∧ fz = fz' := by simpa using h3
              exact ⟨fz, h4, hh, h2⟩
          obtain ⟨fz', hrow, hh, hBb⟩ := hent
          have hoo : 0 < cap → oo = 0 := fun h0 => by have := hc3 h0; omega
          by_cases hroom : len + m ≤ cap
          · -- in place
            by_cases hm : m = 0
            · subst hm
              have hn : news = [] := List.eq_nil_of_length_eq_zero (by simpa using hsrc.len)
              have hrun := run _ w _ w (fun ty => by rw [e1]; exact run_app_room ht hi (ty := ty) hsrc.lenOf (hsrc.cells w fun _ _ => rfl) hroom (fun b' hb' => by rw [hn]; rfl) fun h => absurd h (by simp))
              have hrow' : Row be gc (own O be ⟨fr, hp, gc⟩) w ⟨i.size, len + 0, e', false, true⟩ cs fz' := by
                refine ⟨by simp only [Nat.add_zero]; rw [← hlen, ← hens]; exact hrow.fit, hrow.clean, fun _ => hrow.plain hap, hrow.one, fun k hk j hj => ?_⟩
                replace hk : k < len := hk
                replace hj : j < i.size := hj
                obtain ⟨u, hu, hr⟩ := hrow.cont k (by omega) j (by omega)
                rw [he', if_neg (by omega)]
                exact ⟨u, by rw [← hens]; exact hu, hr⟩
              have hw2 := h.write (w' := w) hse hfz hb (e' := ⟨i.size, len + 0, e', false, true⟩) (fun _ _ => rfl) rfl rfl rfl rfl hh hh rfl rfl hrow'
              obtain ⟨be', hrel, hbe⟩ := hw2.renew (s := s) (setH_same ..)
              refine ⟨w, _, be', hrun, hrel, ?_, .inr ⟨b, oo, cap, cs, el, fz', ?_, rfl, hroom, hc2, fun h0 => by rw [hoo h0]; omega, hh, hc4⟩⟩
              · show gc s + 1 ≤ bump gc s s
                rw [bump_same]; exact Nat.le_refl _
              · exact hbe.trans hb
            · have hcap0 : 0 < cap := by omega
              obtain rfl := hoo hcap0
              have hfit : len * i.size + news.length ≤ cs.size := by
                rw [hsrc.len, ← Nat.add_mul]
                exact Nat.le_trans (Nat.mul_le_mul_right _ hroom) (by omega)
              obtain ⟨w', cs', hst, hh', hs', hm', ho', q1, q2, q3, q4⟩ := run_storeCells_list (P := P) (b := b) (o := len * i.size) news 0 cs w hh (by omega) hrow.clean hsrc.one
              have hrun := run _ w _ w' (fun ty => by
                rw [e1]
                exact run_app_room ht hi (ty := ty) hsrc.lenOf (hsrc.cells w fun _ _ => rfl) hroom (fun b' hb' => by
                  obtain rfl := Option.some.inj hb'
                  rw [addr_add, Nat.zero_add]; exact hst) fun h => absurd h (by simp))
              simp only [Nat.add_zero] at hm'
              have hrow' : Row be gc (own O be ⟨fr, hp, gc⟩) w ⟨i.size, len + m, e', false, true⟩ cs' fz' := by
                refine ⟨by simp only; rw [hs', Nat.add_mul, ← hsrc.len]; exact hfit, by rw [hs']; exact hrow.clean, fun _ => hrow.plain hap, fun k u hu => ?_, fun k hk j hj => ?_⟩
                · rw [hm' k] at hu
                  split at hu
                  · exact hsrc.one u (List.mem_of_getElem? hu)
                  · exact hrow.one k u hu
                · simp only at hk hj ⊢
                  rw [he']
                  have hk' := idx_lt hk hj
                  rw [Nat.add_mul, ← hsrc.len] at hk'
                  by_cases hkl : len ≤ k
                  · have hk2 : len * i.size ≤ k * i.size := Nat.mul_le_mul_right _ hkl
                    obtain ⟨u, hu, hr⟩ := hsrc.reads (k - len) (by omega) j hj
                    refine ⟨u, ?_, by rw [if_pos hkl]; exact hr⟩
                    rw [hm', if_pos ⟨by omega, hk'⟩, show k * i.size + j - len * i.size = (k - len) * i.size + j by rw [Nat.sub_mul]; omega]
                    exact hu
                  · have hk2 := idx_lt (size := i.size) (show k < len by omega) hj
                    obtain ⟨u, hu, hr⟩ := hrow.cont k (by omega) j (by omega)
                    refine ⟨u, ?_, by rw [if_neg hkl]; exact hr⟩
                    rw [hm', if_neg (by omega), ← hens]
                    exact hu
              have hw2 := h.write (w' := w') hse hfz hb (e' := ⟨i.size, len + m, e', false, true⟩) ho' q1 q2 q3 q4 hh hh' hs' rfl hrow'
              obtain ⟨be', hrel, hbe⟩ := hw2.renew (s := s) (setH_same ..)
              refine ⟨w', _, be', hrun, hrel, ?_, .inr ⟨b, 0, cap, cs', el, fz', ?_, rfl, hroom, hc2, fun h0 => by omega, hh', by rw [hs']; exact hc4⟩⟩
              · show gc s + 1 ≤ bump gc s s
                rw [bump_same]; exact Nat.le_refl _
              · exact hbe.trans hb
          · -- a new block
            have hb1' : (len + m) * i.bytes ≤ 140737488355328 := hb1
            obtain ⟨olds, holds, holds1, hfo, hor⟩ : ∃ olds : List Value, olds.length = len * i.size ∧ (∀ u ∈ olds, u.oneCell' = true) ∧ (Builtin.firstCells i.size len (.slice (some ⟨b, oo, none⟩) len cap)).run P w.drew = .ok olds.toArray w.drew ∧
                ∀ k, k < len → ∀ j, j < i.size → ∃ u, olds[k * i.size + j]? = some u ∧ RA be gc (own O be ⟨fr, hp, gc⟩) w (en.c.at k j) u := by
              refine ⟨(cs.toList.drop oo).take (len * i.size), ?_, fun u hu => ?_, ?_, fun k hk j hj => ?_⟩
              · have : len * i.size ≤ cap * i.size := Nat.mul_le_mul_right _ hc1
                simp; omega
              · obtain ⟨k, hk⟩ := List.getElem?_of_mem (List.mem_of_mem_drop (List.mem_of_mem_take hu))
                exact hrow.one k u (by simpa using hk)
              · have hlen' : ((cs.toList.drop oo).take (len * i.size)).length = len * i.size := by
                  have : len * i.size ≤ cap * i.size := Nat.mul_le_mul_right _ hc1
                  simp; omega
                refine run_firstCells_some w.drew i.size len ⟨b, oo, none⟩ len cap _ hlen' (fun k v hv => ?_)
                rw [List.getElem?_take] at hv
                split at hv
                · rw [addr_add, World.cell?_drew]
                  simp only [World.cell?, hh, Option.isSome_none, Bool.false_eq_true, if_false]
                  simpa using hv
                · exact absurd hv (by simp)
              · have hcap0 : 0 < cap := by omega
                obtain rfl := hoo hcap0
                obtain ⟨u, hu, hr⟩ := hrow.cont k (by omega) j (by omega)
                refine ⟨u, ?_, hr⟩
                have hk' := idx_lt hk hj
                rw [List.getElem?_take, if_pos hk', List.drop_zero, ← hens]
                simpa using hu
            have hrun := run _ w _ _ (fun ty => by rw [e1]; exact run_app_grow ht hi (ty := ty) hz hsrc.lenOf hfo (hsrc.cells w.drew fun _ _ => rfl) (by omega) (by omega) (growslice_fits (by omega) hb1'))
            have hcap := grownCap_ge w (len + m) cap e
            have hcapM := grownCap_le_maxLen w (len + m) cap e (by unfold maxLen; omega)
            have row := row_grown (be := be) (gc := gc) (w := w) (Q := own O be ⟨fr, hp, gc⟩) (e' := e') (c := en.c) (zs := Builtin.zeroCells z.cells (grownCap w (len + m) cap e - (len + m))) holds hsrc.len holds1 hsrc.one (zeroCells_one hz1 _) hor hsrc.reads he'
            have hnew := heap_alloc_new w.drew (.cells (olds.toArray ++ news.toArray ++ Builtin.zeroCells z.cells (grownCap w (len + m) cap e - (len + m))) e)
            exact ef_row h (below_drew_alloc w _) hnew row hrun fun be' hb' => ra_os_new (by rw [bump_same]; exact Nat.le_refl _) hb' hnew hcap (by unfold maxLen at hcapM; omega) (by
              simp only [Array.size_append, List.size_toArray, holds, hsrc.len, size_zeroCells, hzs, ← Nat.add_mul]
              exact Nat.mul_le_mul_right _ (by omega))
      split at hl
      · rename_i c hcc
        exact ⟨_, hl, main _ (fun c h => by rw [hcc] at h; exact absurd h (by simp)) fun k j => by rw [hcc]; simp only [EC.at, appC_at]; split <;> rfl⟩
      · rename_i c hcc
        exact ⟨_, hl, main _ (fun c h => by rw [hcc] at h; exact absurd h (by simp)) fun k j => by rw [hcc]; simp only [EC.at, appC_at]⟩
      · exact hl.elim
  · exact hl.elim
/-! noughts behind nothing -/

theorem run_appZ {t t' ty e : TypeId} {i : TypeInfo} {z : Value} {kt k : IntKind} (ht : P.underlying t = some (.slice e)) (ht' : P.underlying t' = some (.int kt)) (hi : P.info? e = some i) (hz : i.zero = some z) (hzp : 0 < i.size) {n : Int} (h0 : 0 < n) (h1 : n * i.bytes ≤ 140737488355328) (h2 : n ≤ 140737488355328) :
    (Builtin.append_ #[t, t'] ty #[.slice none 0 0, .int k n]).run P w = .ok (.slice (some ⟨w.heap.size, 0, none⟩) n.toNat (grownCap w n.toNat 0 e))
      (w.drew.alloc (.cells (Builtin.zeroCells z.cells n.toNat ++ Builtin.zeroCells z.cells (grownCap w n.toNat 0 e - n.toNat)) e)) := by
  obtain ⟨m, rfl⟩ : ∃ m : Nat, n = m := ⟨n.toNat, by omega⟩
  have hw : IntKind.i64.wrap (m : Int) = m := by rw [IntKind.wrap_i64]; omega
  have n1 : ¬ ((m : Int) < 0) := by omega
  have n2 : ¬ (281474976710656 < (m : Int) * i.bytes) := by omega
  have n3 : ¬ m = 0 := by omega
  have n4 : ¬ (9223372036854775807 < (m : Int)) := by omega
  have hf : Builtin.nextslicecap m 0 * i.bytes ≤ 281474976710656 := growslice_fits (by omega) (by rw [← Int.natCast_mul] at h1; omega)
  have n5 : ¬ (281474976710656 < Builtin.nextslicecap m 0 * i.bytes) := by omega
  have n6 : ¬ (m = 0 ∨ i.size = 0) := by omega
  simp [Builtin.append_, run_underlying ht, run_underlying ht', Go.sizeOf, typeInfo, zeroValue, hi, hz, asInt, asIntOf, hw, n1, n2, n3, n4, n5, n6, Question.forced, newRow, grownCap, Builtin.firstCells]
  intro hh
  exact absurd (Nat.mul_eq_zero.1 hh) n6
def cAppZ (P : Program) (op : Op) (size bytes : Nat) (z : List Cst) (x n : Opd) : Bool :=
  match op with
  | .call c => (match c.callee with
    | .builtin .append => true
    | _ => false) && (match c.args.toList with
    | [x', y'] => chkX x' x && chkX y' n
    | _ => false) && (match c.argTypes.toList with
    | [t, t'] => (match P.underlying t' with
      | some (.int _) => true
      | _ => false) && (match slE P t with
      | some e => chkZero P e z && tyB P e bytes
      | none => false)
    | _ => false) && Nat.beq z.length size && Nat.ble 1 size
  | _ => false
theorem zeroCells_get {z : Array Value} {n k : Nat} (hk : k < n * z.size) (hz : 0 < z.size) : (Builtin.zeroCells z n)[k]? = z[k % z.size]? := by
  have hm : k % z.size < z.size := Nat.mod_lt _ hz
  simp [Builtin.zeroCells, hk, Array.getElem?_eq_getElem hm, getElem!_pos z (k % z.size) hm]
theorem e_appZ (h : Rel O W N ⟨fr, hp, gc⟩ a w be) {size bytes : Nat} {z : List Cst} {x n : Opd} (hc : cAppZ P o.op size bytes z x n = true) (hl : (eff (.appZ size bytes z x n) d True ⟨fr, hp, gc⟩).run L) :
    ∃ δ, L δ ∧ Ef P O W N fr hp gc a o w δ := by
  unfold cAppZ at hc
  split at hc
  case h_2 => exact absurd hc (by decide)
  rename_i c ho
  simp only [Bool.and_eq_true] at hc
  obtain ⟨⟨⟨⟨hcal, harg⟩, hty⟩, hzl⟩, hpos⟩ := hc
  obtain rfl := beqN hzl
  have hpos := Nat.le_of_ble_eq_true hpos
  split at hcal
  case h_2 => exact absurd hcal (by decide)
  rename_i hcal'
  split at harg
  case h_2 => exact absurd harg (by decide)
  rename_i x' y' hx'
  simp only [Bool.and_eq_true] at harg
  split at hty
  case h_2 => exact absurd hty (by decide)
  rename_i t t' ht
  simp only [Bool.and_eq_true] at hty
  obtain ⟨hit, hty⟩ := hty
  split at hit
  case h_2 => exact absurd hit (by decide)
  rename_i kt ht'
  split at hty
  case h_2 => exact absurd hty (by decide)
  rename_i e he
  have hu := slE_eq he
  simp only [Bool.and_eq_true] at hty
  obtain ⟨hz, hby⟩ := hty
  obtain ⟨i, zv, hi, hzv, hzz, hsz⟩ := chkZero_eq hz
  unfold tyB at hby
  rw [hi] at hby
  have hby := beqN hby
  simp only [eff_eq, effS, M.run_bind] at hl
  replace hl := rd_sound h.slot harg.1 hl
  obtain ⟨v, hl, hv⟩ := hl
  replace hv := hv trivial
  replace hl := rd_sound h.slot harg.2 hl
  obtain ⟨v', hl, hv'⟩ := hl
  replace hv' := hv' trivial
  replace hl := asI_run hl
  obtain ⟨k, m, rfl, hl⟩ := hl
  split at hl
  · have e1 : a.eval x' = .slice none 0 0 := hv
    have e2 : a.eval y' = .int k m := hv'
    obtain ⟨h0, h1, h2⟩ := hl.l
    have hrun : (execOp a.eval o).run P w = .ok (.value (.slice (some ⟨w.heap.size, 0, none⟩) m.toNat (grownCap w m.toNat 0 e))) (w.drew.alloc (.cells (Builtin.zeroCells zv.cells m.toNat ++ Builtin.zeroCells zv.cells (grownCap w m.toNat 0 e - m.toNat)) e)) := by
      have h1' : m * i.bytes ≤ 140737488355328 := by rw [hby]; exact h1
      have hra := fun ty => run_appZ (P := P) (w := w) (k := k) (ty := ty) hu ht' hi hzv (by omega) h0 h1' h2
      simp [execOp, ho, resolve, hcal', toList_two hx', toList_two ht, invoke, builtin, e1, e2, hra]
    have hcap := grownCap_ge w m.toNat 0 e
    have hcapM := grownCap_le_maxLen w m.toNat 0 e (by unfold maxLen; omega)
    have hzs : zv.cells.size = z.length := by have := chkZ_len hzz; simpa using this
    have hnew := heap_alloc_new w.drew (.cells (Builtin.zeroCells zv.cells m.toNat ++ Builtin.zeroCells zv.cells (grownCap w m.toNat 0 e - m.toNat)) e)
    have hsize : (Builtin.zeroCells zv.cells m.toNat ++ Builtin.zeroCells zv.cells (grownCap w m.toNat 0 e - m.toNat)).size = grownCap w m.toNat 0 e * z.length := by
      simp only [Array.size_append, size_zeroCells, hzs, ← Nat.add_mul]
      congr 1; omega
    have row := row_made0 (be := be) (gc := gc) (w := w) (Q := own O be ⟨fr, hp, gc⟩) hzz hpos m.toNat (grownCap w m.toNat 0 e) hcap _ hsize (fun k hk => by
      rw [Array.getElem?_append]
      split
      · rename_i hk'
        rw [size_zeroCells, hzs] at hk'
        rw [zeroCells_get (by rw [hzs]; exact hk') (by omega), hzs]
      · rename_i hk'
        rw [size_zeroCells, hzs] at hk'
        rw [size_zeroCells, hzs, zeroCells_get (by rw [hzs, Nat.sub_mul]; omega) (by omega), hzs]
        congr 1
        rw [Nat.mul_comm, Nat.sub_mul_mod (by rw [Nat.mul_comm]; omega)]) true
    exact ⟨_, hl.r, ef_row h (below_drew_alloc w _) hnew row hrun fun be' hb' => ra_os_new (by rw [bump_same]; exact Nat.le_refl _) hb' hnew hcap (by unfold maxLen at hcapM; omega) (by rw [hsize]; exact Nat.le_refl _)⟩
  · exact hl.elim
end
end Lk
namespace Lk
open Go Go.RowKit
section
variable {P : Program} {O : Nat → Prop} {W : World} {N : Nat} {fr : Nat → AV} {hp : Nat → Option Ent} {gc : Nat → Nat} {a : Act} {w : World} {be : Nm} {o : Oper} {d : Nat} {L : Dl → Prop}
theorem isUn_run {e : Ent} {α : Type} {m : M α} {L : α → Prop} (h : (isUn e m).run L) : e.fz = false ∧ m.run L := by
  unfold isUn at h
  cases hf : e.fz with
  | true => rw [hf] at h; exact absurd h id
  | false => rw [hf] at h; exact ⟨rfl, h⟩
theorem notVar_run {e : Ent} {α : Type} {m : M α} {L : α → Prop} (h : (notVar e m).run L) : (∀ c, e.c ≠ .var c) ∧ m.run L := by
  unfold notVar at h
  split at h
  · exact h.elim
  · rename_i hc; exact ⟨fun c h => by rw [hc] at h; exact absurd h (by simp), h⟩
  · rename_i hc; exact ⟨fun c h => by rw [hc] at h; exact absurd h (by simp), h⟩
def cSt1 (P : Program) (op : Op) (m : Nat) (x v : Opd) : Bool :=
  match op with
  | .store t x' v' => szT P t m && chkX x' x && chkX v' v
  | _ => false
theorem run_store_op {t : TypeId} {x' v' : Operand} (ho : o.op = .store t x' v') {ad : Addr} (h1 : a.eval x' = .pointer (some ad)) {w' : World} (hst : (storeVar t ad (a.eval v')).run P w = .ok () w') :
    (execOp a.eval o).run P w = .ok .skip w' := by
  simp [execOp, ho, h1, Instr.storeAt, Instr.sureAddr, hst]
theorem es_store (h : Rel O W N ⟨fr, hp, gc⟩ a w be) {t : TypeId} {x' v' : Operand} (ho : o.op = .store t x' v') {i : TypeInfo} (hi : P.info? t = some i) {m : Nat} (him : i.size = m) {hs : List (Nat × Ent)} (hf : Fz O W N fr gc a w be hp (putH hs hp))
    {g : Nat → AV} (hv : Reads be gc (own O be ⟨fr, putH hs hp, gc⟩) w m g (a.eval v').cells) {s b row col : Nat} {e : Ent} (hse : putH hs hp s = some e) (hfz : e.fz = false) (hb : be s (gc s) = some b) (hx : a.eval x' = .pointer (some ⟨b, row * e.size + col, none⟩))
    (hrow : row < e.n) (hcol : col + m ≤ e.size) {c' : EC} (hu : EC.isUpd e.c c' row col m g e.n e.size) : Es (be := be) P O W N fr hp gc a o w ⟨.undef, hs ++ [(s, { e with c := c' })], []⟩ := by
  obtain ⟨w', hst, hrel⟩ := (hf.rel h).store (P := P) hi hse hfz hb hrow hcol him hu (v := a.eval v') hv
  refine ⟨rfl, w', run_store_op ho hx hst, ?_⟩
  simp only [putH_append]
  exact hrel
theorem e_st1 (h : Rel O W N ⟨fr, hp, gc⟩ a w be) {keep : Bool} {x v : Opd} (hc : cSt1 P o.op 1 x v = true) (hl : (eff (.st1 keep x v) d True ⟨fr, hp, gc⟩).run L) :
    ∃ δ, L δ ∧ Es (be := be) P O W N fr hp gc a o w δ := by
  unfold cSt1 at hc
  split at hc
  case h_2 => exact absurd hc (by decide)
  rename_i t x' v' ho
  simp only [Bool.and_eq_true] at hc
  obtain ⟨⟨hsz, hx⟩, hv'⟩ := hc
  obtain ⟨i, hi, him⟩ := szT_eq hsz
  simp only [eff_eq, effS, M.run_bind] at hl
  replace hl := rd_sound h.slot hx hl
  obtain ⟨p, hl, hp⟩ := hl
  replace hp := hp trivial
  replace hl := rd_sound h.slot hv' hl
  obtain ⟨u, hl, hu⟩ := hl
  replace hu := hu trivial
  replace hl := stoV_run hl
  obtain ⟨x1, hs, hl, pr⟩ := hl
  obtain ⟨f1, r1⟩ := pr (O := O) (W := W) (N := N) (fr := fr) (a := a) (w := w) (be := be)
  obtain ⟨hr, h1⟩ := r1 h _ hu
  have hrd : Reads be gc (own O be ⟨fr, putH hs _, gc⟩) w 1 (fun _ => x1) (a.eval v').cells := one_reads h1 hr
  split at hl
  · rename_i s q col
    replace hl := getE_run hl
    obtain ⟨rfl, e, hse, hl⟩ := hl
    replace hl := varE_run hl
    obtain ⟨c, hec, hn, hcol, hl⟩ := hl
    replace hl := isUn_run hl
    obtain ⟨hfz, hl⟩ := hl
    obtain ⟨_, b, hb, hpx⟩ := hp
    refine ⟨_, hl, es_store h ho hi him f1 hrd hse hfz hb (row := 0) (col := col) (by rw [hpx]; simp) (by omega) hcol (fun i' hi' j hj => ?_)⟩
    have hat := upd1_at (e := e.c) (row := 0) (col := col) (v := x1) (fun _ _ => rfl) (i := i') (j := j) (fun _ _ => by omega)
    exact ⟨fun hh => by rw [hat, if_pos ⟨hh.1, by omega⟩], fun hh => by rw [hat, if_neg (fun h2 => hh ⟨h2.1, by omega, by omega⟩)]⟩
  · rename_i s q size row col
    replace hl := getE_run hl
    obtain ⟨rfl, e, hse, hl⟩ := hl
    replace hl := rowE_run hl
    obtain ⟨hz, hcol, hn, hl⟩ := hl
    replace hl := notVar_run hl
    obtain ⟨hnv, hl⟩ := hl
    replace hl := isUn_run hl
    obtain ⟨hfz, hl⟩ := hl
    obtain ⟨_, b, hb, hpx⟩ := hp
    subst hz
    have hvar : ∀ c, e.c = .var c → row = 0 ∧ e.n = 1 := fun c hc => absurd hc (hnv c)
    refine ⟨_, hl, es_store h ho hi him f1 hrd hse hfz hb (row := row) (col := col) hpx hn hcol (fun i' hi' j hj => ?_)⟩
    have hat := upd1_at (e := e.c) (row := row) (col := col) (v := x1) (fun c hc => (hvar c hc).1) (i := i') (j := j) (fun c hc => by have := (hvar c hc).2; omega)
    exact ⟨fun hh => by rw [hat, if_pos ⟨hh.1, by omega⟩], fun hh => by rw [hat, if_neg (fun h2 => hh ⟨h2.1, by omega, by omega⟩)]⟩
  · exact hl.elim
theorem stored_reads {m : Nat} {f g : Nat → AV} {Q Q' : Nat → Prop} {u : Value} (hu : RA be gc Q w (.agg m f) u) (hr : ∀ i, i < m → ∀ u, RA be gc Q w (f (0 + i)) u → RA be gc Q' w (g i) u ∧ u.oneCell' = true) : Reads be gc Q' w m g u.cells := by
  obtain ⟨h1, h2⟩ := agg_reads hu
  refine ⟨h1, fun j hj => ?_⟩
  obtain ⟨u', hu', ho, hru⟩ := h2 j hj
  obtain ⟨hr', _⟩ := hr j hj u' (by rw [Nat.zero_add]; exact hru)
  exact ⟨u', hu', ho, hr'⟩
theorem e_stA (h : Rel O W N ⟨fr, hp, gc⟩ a w be) {keep : Bool} {m : Nat} {x v : Opd} (hc : cSt1 P o.op m x v = true) (hl : (eff (.stA keep m x v) d True ⟨fr, hp, gc⟩).run L) :
    ∃ δ, L δ ∧ Es (be := be) P O W N fr hp gc a o w δ := by
  unfold cSt1 at hc
  split at hc
  case h_2 => exact absurd hc (by decide)
  rename_i t x' v' ho
  simp only [Bool.and_eq_true] at hc
  obtain ⟨⟨hsz, hx⟩, hv'⟩ := hc
  obtain ⟨i, hi, him⟩ := szT_eq hsz
  simp only [eff_eq, effS, M.run_bind] at hl
  replace hl := rd_sound h.slot hx hl
  obtain ⟨p, hl, hp⟩ := hl
  replace hp := hp trivial
  replace hl := rd_sound h.slot hv' hl
  obtain ⟨u, hl, hu⟩ := hl
  replace hu := hu trivial
  split at hl
  case h_2 => exact hl.elim
  rename_i n f
  rw [M.run_iff', M.run_bind] at hl
  obtain ⟨hnm, hl⟩ := hl
  obtain rfl := beqN hnm
  replace hl := stoN_run _ _ _ _ _ hl
  obtain ⟨g, hs, hl, pr⟩ := hl
  obtain ⟨f1, r1⟩ := pr (O := O) (W := W) (N := N) (fr := fr) (a := a) (w := w) (be := be)
  have hrd : Reads be gc (own O be ⟨fr, putH hs _, gc⟩) w n g (a.eval v').cells := stored_reads hu (r1 h)
  split at hl
  · rename_i s q col
    replace hl := getE_run hl
    obtain ⟨rfl, e, hse, hl⟩ := hl
    replace hl := varE_run hl
    obtain ⟨c, hec, hn, hcol, hl⟩ := hl
    replace hl := isUn_run hl
    obtain ⟨hfz, hl⟩ := hl
    obtain ⟨_, b, hb, hpx⟩ := hp
    exact ⟨_, hl, es_store h ho hi him f1 hrd hse hfz hb (row := 0) (col := col) (by rw [hpx]; simp) (by omega) hcol (updN_isUpd n e.c 0 col g e.n e.size fun _ _ => ⟨rfl, hn⟩)⟩
  · rename_i s q size row col
    replace hl := getE_run hl
    obtain ⟨rfl, e, hse, hl⟩ := hl
    replace hl := rowE_run hl
    obtain ⟨hz, hcol, hn, hl⟩ := hl
    replace hl := notVar_run hl
    obtain ⟨hnv, hl⟩ := hl
    replace hl := isUn_run hl
    obtain ⟨hfz, hl⟩ := hl
    obtain ⟨_, b, hb, hpx⟩ := hp
    subst hz
    exact ⟨_, hl, es_store h ho hi him f1 hrd hse hfz hb (row := row) (col := col) hpx hn hcol (updN_isUpd n e.c row col g e.n e.size fun c hc => absurd hc (hnv c))⟩
  · exact hl.elim
theorem e_stR (h : Rel O W N ⟨fr, hp, gc⟩ a w be) {m : Nat} {x v : Opd} (hc : cSt1 P o.op m x v = true) (hl : (eff (.stR m x v) d True ⟨fr, hp, gc⟩).run L) :
    ∃ δ, L δ ∧ Es (be := be) P O W N fr hp gc a o w δ := by
  unfold cSt1 at hc
  split at hc
  case h_2 => exact absurd hc (by decide)
  rename_i t x' v' ho
  simp only [Bool.and_eq_true] at hc
  obtain ⟨⟨hsz, hx⟩, hv'⟩ := hc
  obtain ⟨i, hi, him⟩ := szT_eq hsz
  simp only [eff_eq, effS, M.run_bind] at hl
  replace hl := rd_sound h.slot hx hl
  obtain ⟨p, hl, hp⟩ := hl
  replace hp := hp trivial
  replace hl := rd_sound h.slot hv' hl
  obtain ⟨u, hl, hu⟩ := hl
  replace hu := hu trivial
  split at hl
  case h_2 => exact hl.elim
  rename_i n f
  rw [M.run_iff'] at hl
  obtain ⟨hnm, hl⟩ := hl
  obtain rfl := beqN hnm
  split at hl
  case h_2 => exact hl.elim
  rename_i s q size row col
  replace hl := getE_run hl
  obtain ⟨rfl, e, hse, hl⟩ := hl
  rw [M.run_iff'] at hl
  simp only [Bool.and_eq_true] at hl
  obtain ⟨⟨⟨⟨z1, z2⟩, z3⟩, z4⟩, hl⟩ := hl
  obtain rfl := beqN z1
  have z2 := beqN z2
  obtain rfl := beqN z3
  obtain rfl := beqN z4
  replace hl := isUn_run hl
  obtain ⟨hfz, hl⟩ := hl
  have hen := hl.l
  obtain ⟨_, b, hb, hpx⟩ := hp
  obtain ⟨hu1, hu2⟩ := agg_reads hu
  rcases h.ent s e hse with ⟨h0, _⟩ | ⟨b', cs, el, fz, h1, h2, h3, h4⟩
  · rw [show be s (gc s) = some b from hb] at h0; exact absurd h0 (by simp)
  · rw [show be s (gc s) = some b from hb] at h1
    obtain rfl := Option.some.inj h1
    have hlen : (a.eval v').cells.toList.length = n := by simpa using hu1
    have hone : ∀ u ∈ (a.eval v').cells.toList, u.oneCell' = true := fun u hu => by
      obtain ⟨j, hj⟩ := List.getElem?_of_mem hu
      have hjn : j < n := by have := (List.getElem?_eq_some_iff.1 hj).1; omega
      obtain ⟨u', hu', h1, _⟩ := hu2 j hjn
      have : (a.eval v').cells.toList[j]? = some u' := by simpa using hu'
      rw [hj] at this
      rw [Option.some.inj this]; exact h1
    have hfit : n ≤ cs.size := by have := h4.fit; rw [hen, z2] at this; omega
    obtain ⟨w', cs', hst, hh, hcs, hm, ho', e1, e2, e3, e4⟩ := run_storeCells_list (P := P) (b := b) (o := 0) (a.eval v').cells.toList 0 cs w h3 (by omega) h4.clean hone
    have hrow : Row be gc (own O be ⟨fr, hp, gc⟩) w { e with c := .gen fun i _ => f i } cs' fz := by
      refine ⟨by rw [hcs]; exact h4.fit, by rw [hcs]; exact h4.clean, h4.plain, fun k u hk => ?_, fun k hk j hj => ?_⟩
      · rw [hm k] at hk
        split at hk
        · exact hone u (List.mem_of_getElem? hk)
        · exact h4.one k u hk
      · replace hk : k < e.n := hk
        replace hj : j < e.size := hj
        obtain ⟨u, hu, _, hr⟩ := hu2 k (by omega)
        refine ⟨u, ?_, hr⟩
        show cs'[k * e.size + j]? = some u
        rw [z2, show k * 1 + j = k by omega, hm, if_pos ⟨by omega, by omega⟩]
        simpa using hu
    refine ⟨_, hl.r, rfl, w', run_store_op ho hpx ?_, h.write hse hfz hb ho' e1 e2 e3 e4 h3 hh hcs hfz hrow⟩
    unfold storeVar
    simp only [Sem.run_bind, run_sizeOf hi, Result.andThen_ok]
    rw [if_neg (by simp; rw [hu1, him])]
    simpa using hst
/-! all -/

def chkE (P : Program) (op : Op) : AOp → Bool
  | .val p => chkP P op p
  | .alloc size z => cAlloc P op size z
  | .allocR rows size z => cAllocR P op rows size z
  | .box _ x => cBox op x
  | .boxR _ x => cBox op x
  | .buildS size len z parts => cBuildS P op size len z parts
  | .mk size bytes z n => cMk P op size bytes z n
  | .mk2 size bytes z n c => cMk2 P op size bytes z n c
  | .appZ size bytes z x n => cAppZ P op size bytes z x n
  | .s2b x => cS2b P op x
  | .app size bytes x y => cApp P op size bytes x y
  | .st1 _ x v => cSt1 P op 1 x v
  | .stA _ m x v => cSt1 P op m x v
  | .stR m x v => cSt1 P op m x v
  | .call .. => false
  | .callv .. => false
  | .halt => true
def isSt : AOp → Bool
  | .st1 .. => true
  | .stA .. => true
  | .stR .. => true
  | _ => false
theorem eff_sound (h : Rel O W N ⟨fr, hp, gc⟩ a w be) {op : AOp} (hc : chkE P o.op op = true) (hl : (eff op d True ⟨fr, hp, gc⟩).run L) :
    ∃ δ, L δ ∧ (isSt op = false ∧ Ef P O W N fr hp gc a o w δ ∨ isSt op = true ∧ Es (be := be) P O W N fr hp gc a o w δ) := by
  cases op with
  | val p =>
    simp only [eff_eq, effS, M.run_bind] at hl
    obtain ⟨v, hL, hv⟩ := pv_sound (P := P) (o := o) h.slot h.ent hc hl
    obtain ⟨u, hrun, hr⟩ := hv trivial
    exact ⟨_, hL, .inl ⟨rfl, w, u, be, hrun, h, hr⟩⟩
  | alloc size z =>
    obtain ⟨δ, h1, h2⟩ := e_alloc (d := d) h hc hl
    exact ⟨δ, h1, .inl ⟨rfl, h2⟩⟩
  | allocR rows size z =>
    obtain ⟨δ, h1, h2⟩ := e_allocR (d := d) h hc hl
    exact ⟨δ, h1, .inl ⟨rfl, h2⟩⟩
  | box size x =>
    obtain ⟨δ, h1, h2⟩ := e_box (d := d) h hc hl
    exact ⟨δ, h1, .inl ⟨rfl, h2⟩⟩
  | boxR n x =>
    obtain ⟨δ, h1, h2⟩ := e_boxR (d := d) h hc hl
    exact ⟨δ, h1, .inl ⟨rfl, h2⟩⟩
  | buildS size len z parts =>
    obtain ⟨δ, h1, h2⟩ := e_buildS (d := d) h hc hl
    exact ⟨δ, h1, .inl ⟨rfl, h2⟩⟩
  | mk size bytes z n =>
    obtain ⟨δ, h1, h2⟩ := e_mk (d := d) h hc hl
    exact ⟨δ, h1, .inl ⟨rfl, h2⟩⟩
  | mk2 size bytes z n c =>
    obtain ⟨δ, h1, h2⟩ := e_mk2 (d := d) h hc hl
    exact ⟨δ, h1, .inl ⟨rfl, h2⟩⟩
  | s2b x =>
    obtain ⟨δ, h1, h2⟩ := e_s2b (d := d) h hc hl
    exact ⟨δ, h1, .inl ⟨rfl, h2⟩⟩
  | app size bytes x y =>
    obtain ⟨δ, h1, h2⟩ := e_app (d := d) h hc hl
    exact ⟨δ, h1, .inl ⟨rfl, h2⟩⟩
  | appZ size bytes z x n =>
    obtain ⟨δ, h1, h2⟩ := e_appZ (d := d) h hc hl
    exact ⟨δ, h1, .inl ⟨rfl, h2⟩⟩
  | st1 keep x v =>
    obtain ⟨δ, h1, h2⟩ := e_st1 (d := d) h hc hl
    exact ⟨δ, h1, .inr ⟨rfl, h2⟩⟩
  | stA keep m x v =>
    obtain ⟨δ, h1, h2⟩ := e_stA (d := d) h hc hl
    exact ⟨δ, h1, .inr ⟨rfl, h2⟩⟩
  | stR m x v =>
    obtain ⟨δ, h1, h2⟩ := e_stR (d := d) h hc hl
    exact ⟨δ, h1, .inr ⟨rfl, h2⟩⟩
  | call f args => exact absurd hc (by simp [chkE])
  | callv x args => exact absurd hc (by simp [chkE])
  | halt => exact hl.elim
end
end Lk
namespace Lk
open Go Go.RowKit
section
variable {P : Program} {O : Nat → Prop} {W : World} {N : Nat} {fr : Nat → AV} {hp : Nat → Option Ent} {gc : Nat → Nat} {a : Act} {w : World} {be : Nm} {o : Oper} {d : Nat}
theorem own_lt (h : Rel O W N ⟨fr, hp, gc⟩ a w be) {b : Nat} (hb : own O be ⟨fr, hp, gc⟩ b) : b < w.heap.size := by
  rcases hb with hb | ⟨s, e, _, _, h3⟩
  · exact Nat.lt_of_lt_of_le (h.outer b hb) h.below.size
  · exact h.names _ _ _ h3
theorem argM_run {v : AV} {L : PV × List (Nat × Ent) → Prop} (h : (argM hp gc v).run L) :
    ∃ p hs, L (p, hs) ∧ ∀ {O W N fr a w be}, Fz O W N fr gc a w be hp (putH hs hp) ∧ (Rel O W N ⟨fr, hp, gc⟩ a w be → ∀ u, RA be gc (own O be ⟨fr, hp, gc⟩) w v u → RP (own O be ⟨fr, putH hs hp, gc⟩) w p u) := by
  unfold argM at h
  split at h
  · rename_i n f
    rw [M.run_bind] at h
    obtain ⟨g, hs, h, p⟩ := frzN_run n 0 f hp _ h
    refine ⟨_, _, h, fun {O W N fr a w be} => ?_⟩
    obtain ⟨f1, r1⟩ := p (O := O) (W := W) (N := N) (fr := fr) (a := a) (w := w) (be := be)
    refine ⟨f1, fun r u hu => ?_⟩
    obtain ⟨cs, rfl, hn, hall⟩ := hu
    refine ⟨cs, rfl, hn, fun j hj => ?_⟩
    obtain ⟨u', hu', h1, hr⟩ := hall j hj
    exact ⟨u', hu', h1, r1 r j hj u' (by rw [Nat.zero_add]; exact hr)⟩
  · exact ⟨_, _, h, fun {O W N fr a w be} => ⟨Fz.refl _, fun r u hu => hu⟩⟩
  · rw [M.run_bind] at h
    obtain ⟨x, hs, h, p⟩ := frzC_run h
    refine ⟨_, _, h, fun {O W N fr a w be} => ?_⟩
    obtain ⟨f1, r1⟩ := p (O := O) (W := W) (N := N) (fr := fr) (a := a) (w := w) (be := be)
    exact ⟨f1, fun r u hu => r1 r u hu⟩
theorem RP.keep {Q Q' : Nat → Prop} {w' : World} {be' : Nm} {ga ga' : Nat → Nat} (k : Keeps be ga Q w be' ga' Q' w') {p : PV} {u : Value} (h : RP Q w p u) : RP Q' w' p u := by
  cases p with
  | one x => exact k.rc h
  | many n f =>
    obtain ⟨cs, hu, hn, hall⟩ := h
    exact ⟨cs, hu, hn, fun j hj => let ⟨u', hu', h1, hr⟩ := hall j hj; ⟨u', hu', h1, k.rc hr⟩⟩
  | nil z => exact h
inductive RPs (Q : Nat → Prop) (w : World) : List PV → List Value → Prop
  | nil : RPs Q w [] []
  | cons {p : PV} {u : Value} {ps : List PV} {us : List Value} (h : RP Q w p u) (t : RPs Q w ps us) : RPs Q w (p :: ps) (u :: us)
theorem RPs.keep {Q Q' : Nat → Prop} {w' : World} {be' : Nm} {ga ga' : Nat → Nat} (k : Keeps be ga Q w be' ga' Q' w') {ps : List PV} {us : List Value} (h : RPs Q w ps us) : RPs Q' w' ps us := by
  induction h with
  | nil => exact .nil
  | cons h _ ih => exact .cons (h.keep k) ih
theorem argsM_run {cnd : Prop} : ∀ (ys : List Opd) (xs : List Operand) (hp : Nat → Option Ent) (L : List PV × List (Nat × Ent) → Prop), chkXs xs ys = true → (argsM cnd hp gc fr ys).run L →
    ∃ ps hs, L (ps, hs) ∧ ∀ {O W N a w be}, Fz O W N fr gc a w be hp (putH hs hp) ∧ (cnd → Rel O W N ⟨fr, hp, gc⟩ a w be → RPs (own O be ⟨fr, putH hs hp, gc⟩) w ps (xs.map a.eval))
  | [], [], hp, L, _, h => ⟨[], [], h, fun {_ _ _ _ _ _} => ⟨Fz.refl _, fun _ _ => .nil⟩⟩
  | [], _ :: _, hp, L, hc, _ => absurd hc (by simp [chkXs])
  | _ :: _, [], hp, L, hc, _ => absurd hc (by simp [chkXs])
  | y :: ys, x :: xs, hp, L, hc, h => by
    simp only [chkXs, Bool.and_eq_true] at hc
    simp only [argsM, M.run_bind] at h
    replace h := rd_run (fr := fr) (x := y) h
    obtain ⟨v, h, hv⟩ := h
    replace h := argM_run h
    obtain ⟨p, hs1, h, p1⟩ := h
    replace h := argsM_run ys xs _ _ hc.2 h
    obtain ⟨ps, hs2, h, p2⟩ := h
    refine ⟨_, _, h, fun {O W N a w be} => ?_⟩
    obtain ⟨f1, r1⟩ := p1 (O := O) (W := W) (N := N) (fr := fr) (a := a) (w := w) (be := be)
    obtain ⟨f2, r2⟩ := p2 (O := O) (W := W) (N := N) (a := a) (w := w) (be := be)
    rw [putH_append]
    refine ⟨f1.trans f2, fun c r => ?_⟩
    exact .cons ((r1 r (a.eval x) (hv c _ _ _ _ _ (chkX_RA r.slot hc.1))).keep (f2.keeps (f1.rel r))) (r2 c (f1.rel r))
theorem CEq.rc {Q : Nat → Prop} : ∀ {x y : Cell}, CEq x y → ∀ u, RC Q w x u → RC Q w y u := by
  intro x
  induction x with
  | int k n => intro y h u hu; rw [show y = .int k n from h]; exact hu
  | bool b => intro y h u hu; rw [show y = .bool b from h]; exact hu
  | str s => intro y h u hu; rw [show y = .str s from h]; exact hu
  | fn f => intro y h u hu; rw [show y = .fn f from h]; exact hu
  | sl size n f ih =>
    intro y h u hu
    obtain ⟨size', f', rfl, h⟩ := h
    rcases hu with ⟨h0, hu⟩ | ⟨b, off, cap, hu, hc1, hc2, hcells⟩
    · exact .inl ⟨h0, hu⟩
    · refine .inr ⟨b, off, cap, hu, hc1, hc2, fun i hi j hj => ?_⟩
      obtain ⟨rfl, hf⟩ := h (by omega)
      obtain ⟨h1, u', hu', hr⟩ := hcells i hi j hj
      exact ⟨h1, u', hu', ih i j (hf i hi j hj) u' hr⟩
theorem RPs.eq {Q : Nat → Prop} {ps qs : List PV} {us : List Value} (h : RPs Q w ps us) (he : PVsEq ps qs) : RPs Q w qs us := by
  induction h generalizing qs with
  | nil => cases he; exact .nil
  | cons h _ ih =>
    cases he with
    | cons e t =>
      refine .cons ?_ (ih t)
      cases e with
      | one e => exact e.rc _ h
      | many e =>
        obtain ⟨cs, hu, hn, hall⟩ := h
        exact ⟨cs, hu, hn, fun j hj => let ⟨u', hu', h1, hr⟩ := hall j hj; ⟨u', hu', h1, (e j hj).rc _ hr⟩⟩
      | nil => exact h
      | nilc => exact .inl ⟨rfl, none, h⟩
theorem RPs.get {Q : Nat → Prop} {ps : List PV} {us : List Value} (h : RPs Q w ps us) : us.length = ps.length ∧ ∀ (i : Nat) (p : PV), ps[i]? = some p → ∃ u, us[i]? = some u ∧ RP Q w p u := by
  induction h with
  | nil => exact ⟨rfl, fun i p hp => absurd hp (by simp)⟩
  | cons h _ ih =>
    refine ⟨by simp [ih.1], fun i p hp => ?_⟩
    cases i with
    | zero =>
      simp only [List.getElem?_cons_zero, Option.some.injEq] at hp
      subst hp
      exact ⟨_, rfl, h⟩
    | succ i =>
      simp only [List.getElem?_cons_succ] at hp ⊢
      exact ih.2 i p hp
/-! results -/

theorem site_inj {d t t' : Nat} (h : site d t = site d t') : t = t' := by unfold site at h; omega
theorem rcEs_sites {d : Nat} : ∀ (m t : Nat) (f : Nat → RCell), (∀ s, s ∈ sitesOf (rcEs d t m f) → ∃ k, t ≤ k ∧ k < t + m ∧ s = site d k) ∧ (sitesOf (rcEs d t m f)).Nodup ∧
    ∀ s e, (s, e) ∈ rcEs d t m f → ∃ j size n g, j < m ∧ s = site d (t + j) ∧ f j = .ow size n g ∧ e = ⟨size, n, .dat g, false, true⟩
  | 0, t, f => ⟨fun s hs => absurd hs (by simp [rcEs, sitesOf]), by simp [rcEs, sitesOf], fun s e h => absurd h (by simp [rcEs])⟩
  | m + 1, t, f => by
    obtain ⟨h1, h2, h3⟩ := rcEs_sites (d := d) m (t + 1) (fun j => f (j + 1))
    cases hf : f 0 with
    | im x =>
      have e : rcEs d t (m + 1) f = rcEs d (t + 1) m fun j => f (j + 1) := by simp [rcEs, rcE, hf]
      rw [e]
      refine ⟨fun s hs => ?_, h2, fun s e he => ?_⟩
      · obtain ⟨k, a1, a2, a3⟩ := h1 s hs
        exact ⟨k, by omega, by omega, a3⟩
      · obtain ⟨j, size, n, g, a1, a2, a3, a4⟩ := h3 s e he
        exact ⟨j + 1, size, n, g, by omega, by rw [a2]; congr 1; omega, a3, a4⟩
    | ow size n g =>
      have e : rcEs d t (m + 1) f = (site d t, ⟨size, n, .dat g, false, true⟩) :: rcEs d (t + 1) m fun j => f (j + 1) := by simp [rcEs, rcE, hf]
      rw [e]
      refine ⟨fun s hs => ?_, ?_, fun s e he => ?_⟩
      · simp only [sitesOf, List.mem_cons] at hs
        rcases hs with rfl | hs
        · exact ⟨t, by omega, by omega, rfl⟩
        · obtain ⟨k, a1, a2, a3⟩ := h1 s hs
          exact ⟨k, by omega, by omega, a3⟩
      · simp only [sitesOf, List.nodup_cons]
        refine ⟨fun hs => ?_, h2⟩
        obtain ⟨k, a1, a2, a3⟩ := h1 _ hs
        have := site_inj a3
        omega
      · rcases List.mem_cons.1 he with he | he
        · simp only [Prod.mk.injEq] at he
          obtain ⟨rfl, rfl⟩ := he
          exact ⟨0, size, n, g, by omega, rfl, hf, rfl⟩
        · obtain ⟨j, size, n, g, a1, a2, a3, a4⟩ := h3 s e he
          exact ⟨j + 1, size, n, g, by omega, by rw [a2]; congr 1; omega, a3, a4⟩
theorem sitesOf_append (l m : List (Nat × Ent)) : sitesOf (l ++ m) = sitesOf l ++ sitesOf m := by
  induction l with
  | nil => rfl
  | cons x l ih => obtain ⟨s, e⟩ := x; simp [sitesOf, ih]
def RV.cellsN : RV → Nat
  | .one _ => 1
  | .many n _ => n
def RV.cell : RV → Nat → RCell
  | .one x, _ => x
  | .many _ f, j => f j
theorem rvE_eq (d i : Nat) (r : RV) : rvE d i r = rcEs d (32 * i) r.cellsN r.cell := by
  cases r with
  | one x => simp [rvE, rcEs, RV.cellsN, RV.cell]
  | many n f => rfl
theorem rvEs_sites {d : Nat} : ∀ (l : List RV) (i : Nat), (∀ r ∈ l, r.cellsN ≤ 32) → (∀ s, s ∈ sitesOf (rvEs d i l) → ∃ k, 32 * i ≤ k ∧ s = site d k) ∧ (sitesOf (rvEs d i l)).Nodup ∧
    ∀ s e, (s, e) ∈ rvEs d i l → ∃ m r j size n g, l[m]? = some r ∧ j < r.cellsN ∧ s = site d (32 * (i + m) + j) ∧ r.cell j = .ow size n g ∧ e = ⟨size, n, .dat g, false, true⟩
  | [], i, _ => ⟨fun s hs => absurd hs (by simp [rvEs, sitesOf]), by simp [rvEs, sitesOf], fun s e h => absurd h (by simp [rvEs])⟩
  | r :: l, i, hr => by
    obtain ⟨h1, h2, h3⟩ := rvEs_sites (d := d) l (i + 1) (fun r hr' => hr r (by simp [hr']))
    obtain ⟨g1, g2, g3⟩ := rcEs_sites (d := d) r.cellsN (32 * i) r.cell
    have hr0 := hr r (by simp)
    simp only [rvEs, sitesOf_append, rvE_eq]
    refine ⟨fun s hs => ?_, ?_, fun s e he => ?_⟩
    · rcases List.mem_append.1 hs with hs | hs
      · obtain ⟨k, a1, a2, a3⟩ := g1 s hs
        exact ⟨k, a1, a3⟩
      · obtain ⟨k, a1, a2⟩ := h1 s hs
        exact ⟨k, by omega, a2⟩
    · refine List.nodup_append.2 ⟨g2, h2, fun s hs s' hs' => ?_⟩
      rintro rfl
      obtain ⟨k, a1, a2, a3⟩ := g1 s hs
      obtain ⟨k', b1, b2⟩ := h1 s hs'
      rw [a3] at b2
      have := site_inj b2
      omega
    · rcases List.mem_append.1 he with he | he
      · obtain ⟨j, size, n, g, a1, a2, a3, a4⟩ := g3 s e he
        exact ⟨0, r, j, size, n, g, rfl, a1, a2, a3, a4⟩
      · obtain ⟨m, r', j, size, n, g, a0, a1, a2, a3, a4⟩ := h3 s e he
        exact ⟨m + 1, r', j, size, n, g, by simpa using a0, a1, by rw [a2]; congr 2; omega, a3, a4⟩
theorem rvAt_get (gc : Nat → Nat) (d : Nat) : ∀ (l : List RV) (i j : Nat) (r : RV), l[j]? = some r → rvAt gc d l i j = rvAV gc d (i + j) r
  | [], i, j, r, h => absurd h (by simp)
  | r' :: l, i, 0, r, h => by
    simp only [List.getElem?_cons_zero, Option.some.injEq] at h
    subst h; rfl
  | r' :: l, i, j + 1, r, h => by
    simp only [List.getElem?_cons_succ] at h
    rw [rvAt, rvAt_get gc d l (i + 1) j r h]
    congr 1; omega
theorem rcL_at (gc : Nat → Nat) (d : Nat) : ∀ (m t : Nat) (f : Nat → RCell) (j : Nat), j < m → rcL gc d t m f j = rcAV gc d (t + j) (f j)
  | 0, t, f, j, h => absurd h (by omega)
  | m + 1, t, f, 0, _ => rfl
  | m + 1, t, f, j + 1, h => by
    have := rcL_at gc d m (t + 1) (fun j => f (j + 1)) j (by omega)
    rw [show t + 1 + j = t + (j + 1) by omega] at this
    exact this
theorem Rel.results (h : Rel O W N ⟨fr, hp, gc⟩ a w be) {w' : World} (hb : Below w.heap.size w w') {res : List RV} {v : Value} (hr : RRes (own O be ⟨fr, hp, gc⟩) w.heap.size w' res v) :
    ∃ be', Rel O W N ⟨fr, putH (rvEs d 0 res) hp, putG (sitesOf (rvEs d 0 res)) gc⟩ a w' be' ∧
      RA be' (putG (sitesOf (rvEs d 0 res)) gc) (own O be' ⟨fr, putH (rvEs d 0 res) hp, putG (sitesOf (rvEs d 0 res)) gc⟩) w' (resAV gc d res) v := by
  obtain ⟨vs, bl, hval, hfresh, hinj, hall⟩ := hr
  have hlen : vs.size = res.length := by
    unfold resVal at hval
    split at hval
    · exact hval.1
    · exact hval.1
  have h32 : ∀ r ∈ res, r.cellsN ≤ 32 := fun r hr => by
    obtain ⟨i, hi⟩ := List.getElem?_of_mem hr
    obtain ⟨u, _, hrr⟩ := hall i r hi
    cases r with
    | one x => exact Nat.le_trans (show (1 : Nat) ≤ 1 from Nat.le_refl _) (by omega)
    | many n f => obtain ⟨_, _, _, h, _⟩ := hrr; exact h
  obtain ⟨s1, s2, s3⟩ := rvEs_sites (d := d) res 0 h32
  let nn : Nat → Option Nat := fun s => bl ((s - d) / 1000 - 1)
  have hnn : ∀ t, nn (site d t) = bl t := fun t => by
    simp only [nn, site]
    congr 1; omega
  have hn : News w w' (rvEs d 0 res) nn := by
    refine ⟨s2, hb, fun s hs b hsb => ?_, fun s s' hs hs' b hsb hsb' => ?_⟩
    · obtain ⟨k, _, rfl⟩ := s1 s hs
      rw [hnn] at hsb
      exact hfresh k b hsb
    · obtain ⟨k, _, rfl⟩ := s1 s hs
      obtain ⟨k', _, rfl⟩ := s1 s' hs'
      rw [hnn] at hsb hsb'
      rw [hinj k k' b hsb hsb']
  let Q' := own O (nmU be gc (rvEs d 0 res) nn) ⟨fr, putH (rvEs d 0 res) hp, putG (sitesOf (rvEs d 0 res)) gc⟩
  have hQ : ∀ b, Q' b → (own O be ⟨fr, hp, gc⟩ b ∨ ∃ t, bl t = some b) := fun b hb' => by
    rcases own_news h hn hb' with h' | ⟨s, e, hse, _, hs⟩
    · exact .inl h'
    · obtain ⟨k, _, rfl⟩ := s1 s (sites_mem.2 ⟨e, hse⟩)
      rw [hnn] at hs
      exact .inr ⟨k, hs⟩
  have hrc : ∀ x u, RC (fun b => own O be ⟨fr, hp, gc⟩ b ∨ ∃ t, bl t = some b) w' x u → RC Q' w' x u := fun x u hx => RC.keep (fun b _ hb' => hQ b hb') (fun _ _ _ _ h => h) u hx
  -- a result's cell
  have hcellOf : ∀ (i : Nat) (r : RV), res[i]? = some r → ∀ j, j < r.cellsN → ∃ u, RR1 (fun b => own O be ⟨fr, hp, gc⟩ b ∨ ∃ t, bl t = some b) w.heap.size w' (bl (32 * i + j)) (r.cell j) u := fun i r hi j hj => by
    obtain ⟨u, _, hrr⟩ := hall i r hi
    cases r with
    | one x =>
      obtain rfl : j = 0 := by have : j < 1 := hj; omega
      exact ⟨u, hrr.2⟩
    | many n f =>
      obtain ⟨cs, _, _, _, hc⟩ := hrr
      obtain ⟨u', _, _, h2⟩ := hc j hj
      exact ⟨u', h2⟩
  refine ⟨_, h.news hn (fun s e hse => ?_), ?_⟩
  · obtain ⟨m, r, j, size, n, g, a0, a1, a2, a3, rfl⟩ := s3 s e hse
    rw [Nat.zero_add] at a2
    subst a2
    rw [hnn]
    obtain ⟨u, hu⟩ := hcellOf m r a0 j a1
    rw [a3] at hu
    rcases hu with ⟨h1, h2, _⟩ | ⟨b', o, cap, cs, el, h1, h2, h3, h4, h5, h6, h7, h8, h9⟩
    · exact .inl ⟨h1, h2⟩
    · refine .inr ⟨b', cs, el, (0, 0), h1, h7, Nat.le_trans (Nat.mul_le_mul_right _ h4) (by have := h6.1; show cap * size ≤ cs.size; omega), fun k _ h => by omega, fun _ => rfl, h8, fun i hi j hj => ?_⟩
      obtain ⟨u', hu', hr'⟩ := h9 i hi j hj
      exact ⟨u', hu', hrc _ _ hr'⟩
  · -- the value
    have hcell : ∀ (i j : Nat) (r : RV), res[i]? = some r → j < r.cellsN → ∀ u, RR1 (fun b => own O be ⟨fr, hp, gc⟩ b ∨ ∃ t, bl t = some b) w.heap.size w' (bl (32 * i + j)) (r.cell j) u →
        RA (nmU be gc (rvEs d 0 res) nn) (putG (sitesOf (rvEs d 0 res)) gc) Q' w' (rcAV gc d (32 * i + j) (r.cell j)) u := fun i j r hi hj u hu => by
      cases hx : r.cell j with
      | im x => rw [hx] at hu; exact hrc _ _ hu
      | ow size n g =>
        rw [hx] at hu
        have hmem : site d (32 * i + j) ∈ sitesOf (rvEs d 0 res) := by
          have key : ∀ (l : List RV) (i0 i : Nat), l[i]? = some r → site d (32 * (i0 + i) + j) ∈ sitesOf (rvEs d i0 l) := by
            intro l
            induction l with
            | nil => intro i0 i hi; exact absurd hi (by simp)
            | cons r0 l ih =>
              intro i0 i hi
              simp only [rvEs, sitesOf_append]
              cases i with
              | zero =>
                simp only [List.getElem?_cons_zero, Option.some.injEq] at hi
                subst hi
                refine List.mem_append_left _ ?_
                rw [rvE_eq]
                have key2 : ∀ (m t : Nat) (f : Nat → RCell) (j : Nat), j < m → f j = .ow size n g → site d (t + j) ∈ sitesOf (rcEs d t m f) := by
                  intro m
                  induction m with
                  | zero => intro t f j hj; omega
                  | succ m ih2 =>
                    intro t f j hj hfj
                    simp only [rcEs, sitesOf_append]
                    cases j with
                    | zero => refine List.mem_append_left _ ?_; simp [rcE, hfj, sitesOf]
                    | succ j =>
                      refine List.mem_append_right _ ?_
                      have := ih2 (t + 1) (fun j => f (j + 1)) j (by omega) hfj
                      rwa [show t + 1 + j = t + (j + 1) by omega] at this
                exact key2 r0.cellsN (32 * (i0 + 0)) r0.cell j hj hx
              | succ i =>
                simp only [List.getElem?_cons_succ] at hi
                refine List.mem_append_right _ ?_
                have := ih (i0 + 1) i hi
                rwa [show i0 + 1 + i = i0 + (i + 1) by omega] at this
          have := key res 0 i hi
          rwa [Nat.zero_add] at this
        refine ⟨?_, ?_⟩
        · rw [putG_mem s2 hmem]; exact Nat.le_refl _
        · rw [nmU_new hmem, hnn]
          rcases hu with ⟨h1, h2, h3⟩ | ⟨b', o, cap, cs, el, h1, h2, h3, h4, h5, h6, h7, h8, h9⟩
          · exact .inl ⟨h1, rfl, h2, h3⟩
          · exact .inr ⟨b', o, cap, cs, el, (0, 0), h1, h3, h4, h5, fun h => by have := h6.2 h; omega, h7, h6.1⟩
    have hone : ∀ (i : Nat) (r : RV) (u : Value), res[i]? = some r → RR (fun b => own O be ⟨fr, hp, gc⟩ b ∨ ∃ t, bl t = some b) w.heap.size w' bl i r u →
        RA (nmU be gc (rvEs d 0 res) nn) (putG (sitesOf (rvEs d 0 res)) gc) Q' w' (rvAV gc d i r) u := fun i r u hi hu => by
      cases r with
      | one x => exact hcell i 0 (.one x) hi (show 0 < 1 by omega) u hu.2
      | many n f =>
        obtain ⟨cs, hcs, hn, _, hc⟩ := hu
        refine ⟨cs, hcs, hn, fun j hj => ?_⟩
        obtain ⟨u', hu', h1, h2⟩ := hc j hj
        refine ⟨u', hu', h1, ?_⟩
        rw [rcL_at gc d n (32 * i) f j hj]
        exact hcell i j (.many n f) hi hj u' h2
    have htup : vs.size = res.length → v = .tuple vs → RA (nmU be gc (rvEs d 0 res) nn) (putG (sitesOf (rvEs d 0 res)) gc) Q' w' (.tup res.length fun i => rvAt gc d res 0 i) v := fun hsz hv => by
      refine ⟨vs, hv, hsz, fun j hj => ?_⟩
      have hj' : res[j]? = some res[j] := List.getElem?_eq_getElem hj
      obtain ⟨u, hu, hrr⟩ := hall j _ hj'
      refine ⟨u, hu, ?_⟩
      show RA _ _ _ _ (rvAt gc d res 0 j) u
      rw [rvAt_get gc d res 0 j _ hj', Nat.zero_add]
      exact hone j _ u hj' hrr
    show RA (nmU be gc (rvEs d 0 res) nn) (putG (sitesOf (rvEs d 0 res)) gc) Q' w' (resAV gc d res) v
    clear_value Q'
    clear hcell hcellOf s1 s2 s3 hn hlen h32
    match res, hval, htup, hone, hall with
    | [], hval, htup, _, _ => exact ⟨vs, hval.2, hval.1, fun j hj => absurd hj (by omega)⟩
    | [r], hval, _, hone, hall =>
      obtain ⟨u, hu, hrr⟩ := hall 0 r rfl
      have : u = v := by
        have h2 := hval.2
        rw [hu] at h2
        exact Option.some.inj h2
      subst this
      exact hone 0 r u rfl hrr
    | r :: r' :: l, hval, htup, _, _ => exact htup hval.1 hval.2
end
end Lk
namespace Lk
open Go Go.RowKit
theorem frc_iff (v : AV) (K : AV → Prop) : frc v K ↔ K v := by
  unfold frc
  split <;> first | exact Iff.rfl | skip
  split <;> exact Iff.rfl
theorem goH_iff : ∀ (l : List (Nat × Ent)) (hp : Nat → Option Ent) (K : (Nat → Option Ent) → Prop), goH l hp K ↔ K (putH l hp)
  | [], _, _ => Iff.rfl
  | (s, e) :: r, hp, K => goH_iff r (setH hp s e) K
theorem goG_iff : ∀ (l : List Nat) (gc : Nat → Nat) (K : (Nat → Nat) → Prop), goG l gc K ↔ K (putG l gc)
  | [], _, _ => Iff.rfl
  | s :: r, gc, K => goG_iff r (bump gc s) K
def St.chg (st : St) (d : Option Nat) (x : Dl) : St := ⟨putF st.fr d x.v, putH x.hs st.hp, putG x.gs st.gc⟩
theorem goD_iff (fr : Nat → AV) (hp : Nat → Option Ent) (gc : Nat → Nat) (d : Option Nat) (wr : AV → AV) (x : Dl) (K : St → Prop) :
    goD fr hp gc d wr x K ↔ K (St.chg ⟨fr, hp, gc⟩ d ⟨wr x.v, x.hs, x.gs⟩) := by
  obtain ⟨v, hs, gs⟩ := x
  simp only [goD, goH_iff, goG_iff]
  cases d with
  | none => exact Iff.rfl
  | some k => simp only [frc_iff]; exact Iff.rfl
theorem goW_iff (fr : Nat → AV) (hp : Nat → Option Ent) (gc : Nat → Nat) (d : Option Nat) (wr : AV → AV) (x : Dl) (K : St → List Nat → Prop) :
    goW fr hp gc d wr x K ↔ K (St.chg ⟨fr, hp, gc⟩ d ⟨wr x.v, x.hs, x.gs⟩) (sitesOf x.hs ++ x.gs) := by
  obtain ⟨v, hs, gs⟩ := x
  simp only [goW, goH_iff, goG_iff]
  cases d with
  | none => exact Iff.rfl
  | some k => simp only [frc_iff]; exact Iff.rfl
def CallR (P : Program) (cnd : Prop) (gd : Bool) (d : Option Nat) (f : Nat) (args : List Opd) (st : St) (δ : Dl) : Prop :=
  ∃ pvs hs args' res k, d = some k ∧ (argsM cnd st.hp st.gc st.fr args).run (fun x => x = (pvs, hs)) ∧ (cnd → FnOk P f args' res) ∧ (cnd → PVsEq pvs args') ∧
    (gd = true → (callD st.gc k [] res).hs = [] ∧ (callD st.gc k [] res).gs = [] ∧ δ = ⟨.may cnd (resAV st.gc k res), hs, []⟩) ∧ (gd = false → δ = callD st.gc k hs res)
def OpR (P : Program) (op : AOp) (d : Option Nat) (st : St) (δ : Dl) : Prop :=
  match op with
  | .call f args => CallR P True false d f args st δ
  | .callv x args => (rd True st.fr x).run fun v => isFn v fun f => CallR P True false d f args st δ
  | op => (eff op (d.getD 0) True st).run fun x => x = δ
def GdR (P : Program) (cnd : Prop) (op : AOp) (d : Option Nat) (st : St) (δ : Dl) : Prop :=
  match op with
  | .val p => ((pv st.hp st.gc cnd st.fr p).guard cnd).run fun v => δ = .val (.may cnd v)
  | .call f args => CallR P cnd true d f args st δ
  | _ => False
def EffR (P : Program) (o : AOper) (st : St) (δ : Dl) : Prop :=
  match o.gd with
  | none => OpR P o.op o.d st δ
  | some (g, want) => match st.fr g with
    | .c (.bool b) => GdR P (b = want) o.op o.d st δ
    | .may p (.c (.bool b)) => GdR P (p ∧ b = want) o.op o.d st δ
    | _ => False
section
variable {P : Program}
theorem isPure_run {x : Dl} {α : Type} {m : M α} {K : α → Prop} (h : (isPure x m).run K) : x.hs = [] ∧ x.gs = [] ∧ m.run K := by
  unfold isPure at h
  split at h
  · rename_i h1
    split at h
    · rename_i h2; exact ⟨h1, h2, h⟩
    · exact h.elim
  · exact h.elim
theorem callW_split {cnd : Prop} {gd : Bool} {wr : AV → AV} (hwr : (gd = true → wr = .may cnd) ∧ (gd = false → wr = fun v => v)) {d : Option Nat} {f : Nat} {args : List Opd} {fr : Nat → AV} {hp : Nat → Option Ent} {gc : Nat → Nat} {K : St → List Nat → Prop}
    (h : callW P cnd gd wr d f args fr hp gc K) : ∃ δ, CallR P cnd gd d f args ⟨fr, hp, gc⟩ δ ∧ K (St.chg ⟨fr, hp, gc⟩ d δ) (sitesOf δ.hs ++ δ.gs) := by
  obtain ⟨⟨pvs, hs⟩, hx, h⟩ := M.split h
  obtain ⟨args', res, h1, h2, h⟩ := h.out
  cases d with
  | none => exact h.elim
  | some k =>
    cases gd with
    | true =>
      simp only [cond_true] at h
      obtain ⟨e1, e2, h⟩ := isPure_run h
      replace h : goW fr hp gc (some k) wr ⟨resAV gc k res, hs, []⟩ K := h
      replace h := (goW_iff ..).1 h
      rw [hwr.1 rfl] at h
      exact ⟨_, ⟨pvs, hs, args', res, k, rfl, hx, h1, h2, fun _ => ⟨e1, e2, rfl⟩, fun h => absurd h (by simp)⟩, h⟩
    | false =>
      simp only [cond_false] at h
      replace h := (goW_iff ..).1 h
      rw [hwr.2 rfl] at h
      exact ⟨_, ⟨pvs, hs, args', res, k, rfl, hx, h1, h2, fun h => absurd h (by simp), fun _ => rfl⟩, h⟩
theorem stepWG_split {cnd : Prop} {op : AOp} {d : Option Nat} {fr : Nat → AV} {hp : Nat → Option Ent} {gc : Nat → Nat} {K : St → List Nat → Prop} (h : stepWG P cnd (.may cnd) op d fr hp gc K) :
    ∃ δ, GdR P cnd op d ⟨fr, hp, gc⟩ δ ∧ K (St.chg ⟨fr, hp, gc⟩ d δ) (sitesOf δ.hs ++ δ.gs) := by
  cases op with
  | val p =>
    obtain ⟨v, hv, h⟩ := M.split h
    replace h := (goW_iff ..).1 h
    exact ⟨.val (.may cnd v), M.mono hv fun x hx => by rw [hx], h⟩
  | call f args => exact callW_split ⟨fun _ => rfl, fun h => absurd h (by simp)⟩ h
  | _ => exact h.elim
theorem eff_split {op : AOp} {d : Option Nat} {fr : Nat → AV} {hp : Nat → Option Ent} {gc : Nat → Nat} {K : St → List Nat → Prop}
    (h : effOW K op d fr hp gc) :
    ∃ δ, (eff op (d.getD 0) True ⟨fr, hp, gc⟩).run (fun x => x = δ) ∧ K (St.chg ⟨fr, hp, gc⟩ d δ) (sitesOf δ.hs ++ δ.gs) := by
  cases d with
  | some k =>
    obtain ⟨δ, h1, h⟩ := M.split h
    exact ⟨δ, h1, (goW_iff ..).1 h⟩
  | none =>
    obtain ⟨δ, h1, h⟩ := M.split h
    exact ⟨δ, h1, (goW_iff ..).1 h⟩
theorem stepW_split {o : AOper} {st : St} {K : St → List Nat → Prop} (h : stepW P o st K) : ∃ δ, EffR P o st δ ∧ K (st.chg o.d δ) (sitesOf δ.hs ++ δ.gs) := by
  obtain ⟨fr, hp, gc⟩ := st
  obtain ⟨d, op, gd⟩ := o
  unfold stepW at h
  unfold EffR
  simp only at h ⊢
  cases gd with
  | none =>
    simp only at h ⊢
    cases op with
    | call f args => exact callW_split ⟨fun h => absurd h (by simp), fun _ => rfl⟩ h
    | callv x args =>
      obtain ⟨v, hv, h⟩ := M.split h
      unfold isFn at h
      split at h
      · obtain ⟨δ, h1, h2⟩ := callW_split ⟨fun h => absurd h (by simp), fun _ => rfl⟩ h
        exact ⟨δ, M.mono hv fun x hx => by rw [hx]; exact h1, h2⟩
      · exact h.elim
    | _ => exact eff_split h
  | some gw =>
    obtain ⟨g, want⟩ := gw
    simp only at h ⊢
    split at h
    · rename_i b hb
      simp only [hb]
      exact stepWG_split h
    · rename_i p b hb
      simp only [hb]
      exact stepWG_split h
    · exact h.elim
theorem goD_W {fr : Nat → AV} {hp : Nat → Option Ent} {gc : Nat → Nat} {d : Option Nat} {wr : AV → AV} {x : Dl} {K : St → Prop} (h : goD fr hp gc d wr x K) : goW fr hp gc d wr x fun st _ => K st :=
  (goW_iff ..).2 ((goD_iff ..).1 h)
theorem step_W {o : AOper} {st : St} {K : St → Prop} (h : step P o st K) : stepW P o st fun st _ => K st := by
  obtain ⟨fr, hp, gc⟩ := st
  obtain ⟨d, op, gd⟩ := o
  have hcall : ∀ cnd gd wr d f args, callP P cnd gd wr d f args fr hp gc K → callW P cnd gd wr d f args fr hp gc fun st _ => K st := by
    intro cnd gd wr d f args h
    refine M.mono h fun x hx => ?_
    obtain ⟨pvs, hs⟩ := x
    obtain ⟨args', res, h1, h2, h⟩ := hx.out
    refine ⟨args', res, h1, h2, ?_⟩
    cases d with
    | none => exact h
    | some k =>
      cases gd with
      | true => exact M.mono h fun _ h => (goW_iff ..).2 ((goD_iff ..).1 h)
      | false =>
        replace h : goD fr hp gc (some k) wr (callD gc k hs res) K := h
        exact goD_W h
  have hG : ∀ cnd wr, stepG P cnd wr op d fr hp gc K → stepWG P cnd wr op d fr hp gc fun st _ => K st := by
    intro cnd wr h
    cases op with
    | val p => exact M.mono h fun _ h => (goW_iff ..).2 ((goD_iff ..).1 h)
    | call f args => exact hcall _ _ _ _ _ _ h
    | _ => exact h.elim
  have hE : ∀ (op : AOp) (d : Option Nat), effO K op d fr hp gc → effOW (fun st _ => K st) op d fr hp gc := by
    intro op d h
    cases d with
    | some k => exact M.mono h fun _ h => (goW_iff ..).2 ((goD_iff ..).1 h)
    | none => exact M.mono h fun _ h => (goW_iff ..).2 ((goD_iff ..).1 h)
  unfold step at h
  unfold stepW
  simp only at h ⊢
  cases gd with
  | none =>
    simp only at h ⊢
    cases op with
    | call f args => exact hcall _ _ _ _ _ _ h
    | callv x args =>
      refine M.mono h fun v h => ?_
      unfold isFn at h ⊢
      split at h
      · exact hcall _ _ _ _ _ _ h
      · exact h.elim
    | _ => exact hE _ d h
  | some gw =>
    obtain ⟨g, want⟩ := gw
    simp only at h ⊢
    split at h
    · exact hG _ _ h
    · exact hG _ _ h
    · exact h.elim
end
end Lk
namespace Lk
open Go Go.RowKit
def cCall (op : Op) (f : Nat) (args : List Opd) : Bool :=
  match op with
  | .call c => (match c.callee with
    | .value (.func g) => Nat.beq g f
    | _ => false) && chkXs c.args.toList args
  | _ => false
def cCallv (op : Op) (x : Opd) (args : List Opd) : Bool :=
  match op with
  | .call c => (match c.callee with
    | .value y => chkX y x
    | _ => false) && chkXs c.args.toList args
  | _ => false
def chkDst (N : Nat) (d : Option Nat) (st : Bool) : Bool :=
  match d with
  | some k => !st && Nat.ble (k + 1) N
  | none => st
def chkGd (ops : Array Oper) (g g' : Option (Nat × Bool)) : Bool :=
  match g with
  | none => (match g' with
    | none => true
    | some _ => false)
  | some (j, want) => (match g' with
    | none => false
    | some (k, want') => (match (ops[j]?).bind (·.dst) with
      | some k' => Nat.beq k' k
      | none => false) && (want == want'))
def chkCE (P : Program) (o : Op) (op : AOp) : Bool :=
  match op with
  | .call f args => cCall o f args
  | .callv x args => cCallv o x args
  | op => chkE P o op
def eqO (d d' : Option Nat) : Bool :=
  match d with
  | none => (match d' with
    | none => true
    | some _ => false)
  | some k => (match d' with
    | none => false
    | some k' => Nat.beq k k')
theorem eqO_eq {d d' : Option Nat} (h : eqO d d' = true) : d = d' := by
  cases d with
  | none => cases d' with
    | none => rfl
    | some k => exact absurd h (by simp [eqO])
  | some k => cases d' with
    | none => exact absurd h (by simp [eqO])
    | some k' => exact congrArg some (beqN h)
def chkOp (P : Program) (N : Nat) (ops : Array Oper) (o : Oper) (ao : AOper) : Bool :=
  eqO o.dst ao.d && chkDst N ao.d (isSt ao.op) && chkGd ops o.guard ao.gd && chkCE P o.op ao.op
section
variable {P : Program} {O : Nat → Prop} {W : World} {N : Nat} {st : St} {a : Act} {w : World} {be : Nm} {o : Oper} {ao : AOper} {δ : Dl} {next : Act → World → Prop} {Q : Exit → Act → World → Prop}
theorem run_callGo {f : Nat} (h : isGo P f = true) (args : Array Value) (w : World) : (callFunc f args).run P w = .ok (.enter f args) w := by
  unfold isGo at h
  split at h
  case h_2 => exact absurd h (by decide)
  rename_i fn hfn
  simp only [Bool.and_eq_true, Bool.not_eq_true'] at h
  obtain ⟨h1, h2⟩ := h
  have h3 : fn.body.isNone = false := by cases hb : fn.body <;> simp_all
  unfold callFunc
  simp only [Sem.run_bind, run_program, Result.andThen_ok, hfn, h2, Bool.false_eq_true, if_false, h3, Sem.run_pure]
theorem call_sound {f : Nat} {args : List Opd} {c : Call} (ho : o.op = .call c) (hrun : ∀ w, isGo P f = true → (execOp a.eval o).run P w = .ok (.enter f (c.args.map a.eval)) w) (hx : chkXs c.args.toList args = true)
    {cnd : Prop} (hcnd : cnd) {gd : Bool} {d : Nat} (hd : d < N) (hdst : o.dst = some d) (h : Rel O W N st a w be) (he : CallR P cnd gd (some d) f args st δ)
    (hk : ∀ a' w' be', Rel O W N (st.chg (some d) δ) a' w' be' → next a' w') : o.wp P a w next Q := by
  obtain ⟨fr, hp, gc⟩ := st
  obtain ⟨pvs, hs, args', res, k, hdk, hargs, hf, heq, hg1, hg2⟩ := he
  obtain rfl := Option.some.inj hdk
  obtain ⟨ps', hs', hps, hr⟩ := argsM_run args c.args.toList hp _ hx hargs
  simp only [Prod.mk.injEq] at hps
  obtain ⟨rfl, rfl⟩ := hps
  obtain ⟨f1, r1⟩ := hr (O := O) (W := W) (N := N) (a := a) (w := w) (be := be)
  have hrel1 := f1.rel h
  have hrps := (r1 hcnd h).eq (heq hcnd)
  obtain ⟨hl, hget⟩ := hrps.get
  have hfn := hf hcnd
  unfold Oper.wp
  rw [hrun w hfn.go]
  simp only [Oper.upon]
  refine Calls.mono (hfn.calls (own O be ⟨fr, putH hs' hp, gc⟩) (c.args.map a.eval) w (fun b hb => own_lt hrel1 hb) (by have := hl; simp at this ⊢; exact this) (fun i p hp => ?_)) ?_
  · obtain ⟨u, hu, hr⟩ := hget i p hp
    refine ⟨u, ?_, hr⟩
    simpa using hu
  · rintro e w' ⟨v, rfl, hb, hres⟩
    simp only
    obtain ⟨be', hrel, hra⟩ := hrel1.results (d := d) hb hres
    have hput := hrel.put hd hra
    cases gd with
    | true =>
      obtain ⟨e1, e2, hδ⟩ := hg1 rfl
      rw [hδ] at hk
      rw [hdst]
      have e1' : rvEs d 0 res = [] := by
        have : (callD gc d [] res).hs = [] ++ rvEs d 0 res := rfl
        rw [this] at e1; simpa using e1
      rw [e1'] at hput
      simp only [putH, sitesOf, putG] at hput
      refine hk _ _ be' ?_
      have hput2 := hrel
      rw [e1'] at hput2 hra
      exact Rel.put hput2 hd (v := .may cnd (resAV gc d res)) ⟨fun _ => hra, fun hn => absurd hcnd hn⟩
    | false =>
      have hδ := hg2 rfl
      rw [hδ] at hk
      rw [hdst]
      refine hk _ _ be' ?_
      have : St.chg ⟨fr, hp, gc⟩ (some d) (callD gc d hs' res) = ⟨setF fr d (resAV gc d res), putH (rvEs d 0 res) (putH hs' hp), putG (sitesOf (rvEs d 0 res)) gc⟩ := by
        unfold St.chg callD putF
        simp only [putH_append]
      rw [this]
      exact hput
theorem cCall_run {f : Nat} {args : List Opd} (hc : cCall o.op f args = true) : ∃ c, o.op = .call c ∧ chkXs c.args.toList args = true ∧ ∀ (a : Act) w, isGo P f = true → (execOp a.eval o).run P w = .ok (.enter f (c.args.map a.eval)) w := by
  unfold cCall at hc
  split at hc
  case h_2 => exact absurd hc (by decide)
  rename_i c ho
  simp only [Bool.and_eq_true] at hc
  obtain ⟨hcal, harg⟩ := hc
  split at hcal
  case h_2 => exact absurd hcal (by decide)
  rename_i g hg
  obtain rfl := beqN hcal
  refine ⟨c, ho, harg, fun a w hgo => ?_⟩
  simp [execOp, ho, resolve, hg, Act.eval, Deferred.ofValue, invoke, run_callGo hgo]
theorem Rel.undefd {fr : Nat → AV} {hp : Nat → Option Ent} {gc : Nat → Nat} (h : Rel O W N ⟨fr, hp, gc⟩ a w be) {d : Nat} (hd : d < N) {cnd : Prop} (hn : ¬ cnd) (v : AV) : Rel O W N ⟨setF fr d (.may cnd v), hp, gc⟩ (a.put (some d) Go.undef) w be :=
  h.put hd ⟨fun hc => absurd hc hn, fun _ => rfl⟩
theorem opR_sound (hdst : o.dst = ao.d) (hd : chkDst N ao.d (isSt ao.op) = true) (hc : chkCE P o.op ao.op = true) (h : Rel O W N st a w be) (he : OpR P ao.op ao.d st δ)
    (hk : ∀ a' w' be', Rel O W N (st.chg ao.d δ) a' w' be' → next a' w') : o.wp P a w next Q := by
  obtain ⟨fr, hp, gc⟩ := st
  obtain ⟨d, op, gd⟩ := ao
  simp only at *
  have hdlt : ∀ k, d = some k → k < N := fun k hk' => by
    subst hk'
    simp only [chkDst, Bool.and_eq_true] at hd
    exact Nat.le_of_ble_eq_true hd.2
  have heff : ∀ (hce : chkE P o.op op = true) (_ : (eff op (d.getD 0) True ⟨fr, hp, gc⟩).run fun x => x = δ), o.wp P a w next Q := by
    intro hce he
    obtain ⟨δ', rfl, hs⟩ := eff_sound (d := d.getD 0) h hce he
    unfold Oper.wp
    rcases hs with ⟨hst, w', u, be', hrun, hrel, hra⟩ | ⟨hst, hgs, w', hrun, hrel⟩
    · rw [hrun]
      simp only [Oper.upon]
      rw [hst] at hd
      cases d with
      | none => exact absurd hd (by simp [chkDst])
      | some k =>
        rw [hdst]
        exact hk _ _ be' (hrel.put (hdlt k rfl) hra)
    · rw [hrun]
      simp only [Oper.upon]
      rw [hst] at hd
      cases d with
      | some k => exact absurd hd (by simp [chkDst])
      | none =>
        rw [hdst]
        refine hk _ _ be ?_
        have : St.chg ⟨fr, hp, gc⟩ none δ' = ⟨fr, putH δ'.hs hp, gc⟩ := by
          unfold St.chg putF; rw [hgs]; rfl
        rw [this]
        exact hrel
  cases op with
  | call f args =>
    obtain ⟨c, ho, harg, hrun⟩ := cCall_run (P := P) hc
    obtain ⟨pvs, hs, args', res, k, rfl, _⟩ := id he
    exact call_sound ho (hrun a) harg trivial (hdlt k rfl) hdst h he hk
  | callv x args =>
    unfold chkCE cCallv at hc
    simp only at hc
    split at hc
    case h_2 => exact absurd hc (by decide)
    rename_i c ho
    simp only [Bool.and_eq_true] at hc
    obtain ⟨hcal, harg⟩ := hc
    split at hcal
    case h_2 => exact absurd hcal (by decide)
    rename_i y hy
    replace he : (rd True fr x).run fun v => isFn v fun f => CallR P True false d f args ⟨fr, hp, gc⟩ δ := he
    obtain ⟨v, he, hv⟩ := rd_sound h.slot hcal he
    unfold isFn at he
    split at he
    case h_2 => exact he.elim
    rename_i f
    have e1 : a.eval y = .func (.func f) #[] #[] := hv trivial
    obtain ⟨pvs, hs, args', res, k, rfl, _⟩ := id he
    refine call_sound ho (fun w hgo => ?_) harg trivial (hdlt k rfl) hdst h he hk
    simp [execOp, ho, resolve, hy, e1, Deferred.ofValue, invoke, run_callGo hgo]
  | _ => exact heff hc he
theorem gdR_sound {cnd : Prop} (hdst : o.dst = ao.d) (hd : chkDst N ao.d (isSt ao.op) = true) (hc : chkCE P o.op ao.op = true) (h : Rel O W N st a w be) (he : GdR P cnd ao.op ao.d st δ)
    (hk : ∀ a' w' be', Rel O W N (st.chg ao.d δ) a' w' be' → next a' w') : (cnd → o.wp P a w next Q) ∧ (¬ cnd → next (a.put o.dst Go.undef) w) := by
  obtain ⟨fr, hp, gc⟩ := st
  obtain ⟨d, op, gd⟩ := ao
  simp only at *
  have hdlt : ∀ k, d = some k → k < N := fun k hk' => by
    subst hk'
    simp only [chkDst, Bool.and_eq_true] at hd
    exact Nat.le_of_ble_eq_true hd.2
  cases op with
  | val p =>
    cases d with
    | none => exact absurd hd (by simp [chkDst, isSt])
    | some k =>
      refine ⟨fun c => ?_, fun n => ?_⟩
      · obtain ⟨v, rfl, hv⟩ := pv_sound (P := P) (o := o) h.slot h.ent hc (M.guard_run c he)
        obtain ⟨u, hrun, hr⟩ := hv c
        unfold Oper.wp
        rw [hrun]
        simp only [Oper.upon]
        rw [hdst]
        exact hk _ _ be (h.put (hdlt k rfl) (v := .may cnd v) ⟨fun _ => hr, fun hn => absurd c hn⟩)
      · obtain ⟨v, rfl⟩ := M.guard_ex he
        rw [hdst]
        exact hk _ _ be (h.undefd (hdlt k rfl) n v)
  | call f args =>
    obtain ⟨c, ho, harg, hrun⟩ := cCall_run (P := P) hc
    refine ⟨fun cc => ?_, fun n => ?_⟩
    · obtain ⟨pvs, hs, args', res, k, rfl, _⟩ := id he
      exact call_sound ho (hrun a) harg cc (hdlt k rfl) hdst h he hk
    · obtain ⟨pvs, hs, args', res, k, rfl, hargs, hf, heq, hg1, hg2⟩ := he
      obtain ⟨ps', hs', hps, hr⟩ := argsM_run args c.args.toList hp _ harg hargs
      simp only [Prod.mk.injEq] at hps
      obtain ⟨rfl, rfl⟩ := hps
      obtain ⟨f1, _⟩ := hr (O := O) (W := W) (N := N) (a := a) (w := w) (be := be)
      obtain ⟨_, _, hδ⟩ := hg1 rfl
      rw [hdst]
      rw [hδ] at hk
      exact hk _ _ be ((f1.rel h).undefd (hdlt k rfl) n _)
  | _ => exact he.elim
theorem guard_some {ops : Array Oper} {g : Nat × Bool} (hg : o.guard = some g) (hc : chkGd ops o.guard ao.gd = true) : ∃ k want, ao.gd = some (k, want) ∧ ∀ tmps : Array Value, Region.wanted o (yielded ops tmps) = true ↔ tmps[k]? = some (.bool want) := by
  rw [hg] at hc
  obtain ⟨j, want⟩ := g
  cases hgd : ao.gd with
  | none => rw [hgd] at hc; exact absurd hc (by simp [chkGd])
  | some kw =>
    obtain ⟨k, want'⟩ := kw
    rw [hgd] at hc
    simp only [chkGd, Bool.and_eq_true, beq_iff_eq] at hc
    obtain ⟨h1, rfl⟩ := hc
    split at h1
    case h_2 => exact absurd h1 (by decide)
    rename_i k' hk'
    obtain rfl := beqN h1
    refine ⟨k', want, rfl, fun tmps => ?_⟩
    have hsome : ((ops[j]?).bind fun x => x.dst).bind (fun x => tmps[x]?) = tmps[k']? := by rw [hk']; rfl
    simp only [Region.wanted, hg, beq_iff_eq, yielded, hsome]
    cases hv : tmps[k']? with
    | none => simp
    | some v => cases v <;> simp
theorem getD_bool {tmps : Array Value} {k : Nat} {b : Bool} (h : tmps.getD k Go.undef = .bool b) : tmps[k]? = some (.bool b) := by
  rw [Array.getD_eq_getD_getElem?] at h
  cases hv : tmps[k]? with
  | none => rw [hv] at h; exact absurd h (by simp [Go.undef])
  | some v => rw [hv] at h; simp only [Option.getD_some] at h; rw [h]
theorem getD_undef {tmps : Array Value} {k : Nat} (h : tmps.getD k Go.undef = Go.undef) (b : Bool) : tmps[k]? ≠ some (.bool b) := by
  intro hv
  rw [Array.getD_eq_getD_getElem?, hv] at h
  exact absurd h (by simp [Go.undef])
theorem EffR_sound {ops : Array Oper} (hc : chkOp P N ops o ao = true) (h : Rel O W N st a w be) (he : EffR P ao st δ) (hk : ∀ a' w' be', Rel O W N (st.chg ao.d δ) a' w' be' → next a' w') :
    (Region.wanted o (yielded ops a.tmps) = true → o.wp P a w next Q) ∧ (¬ (Region.wanted o (yielded ops a.tmps) = true) → next (a.put o.dst Go.undef) w) := by
  simp only [chkOp, Bool.and_eq_true] at hc
  obtain ⟨⟨⟨h1, h2⟩, h3⟩, h4⟩ := hc
  have h1 := eqO_eq h1
  cases hg : o.guard with
  | none =>
    have hgd : ao.gd = none := by
      rw [hg] at h3
      cases hgd : ao.gd with
      | none => rfl
      | some x => rw [hgd] at h3; exact absurd h3 (by simp [chkGd])
    have hw : Region.wanted o (yielded ops a.tmps) = true := by simp [Region.wanted, hg]
    unfold EffR at he
    rw [hgd] at he
    exact ⟨fun _ => opR_sound h1 h2 h4 h he hk, fun hn => absurd hw hn⟩
  | some g =>
    obtain ⟨k, want, hgd, hw⟩ := guard_some hg h3
    unfold EffR at he
    rw [hgd] at he
    simp only at he
    rw [hw]
    have hs := h.slot k
    split at he
    · rename_i b hb
      obtain ⟨e1, e2⟩ := gdR_sound (Q := Q) h1 h2 h4 h he hk
      rw [hb] at hs
      have hs' := getD_bool (show a.tmps.getD k Go.undef = .bool b from hs)
      rw [hs']
      exact ⟨fun hh => e1 (by simpa using hh), fun hh => e2 (fun hbw => hh (by rw [hbw]))⟩
    · rename_i p b hb
      obtain ⟨e1, e2⟩ := gdR_sound (Q := Q) h1 h2 h4 h he hk
      rw [hb] at hs
      by_cases hp : p
      · have hs' := getD_bool (show a.tmps.getD k Go.undef = .bool b from hs.1 hp)
        rw [hs']
        exact ⟨fun hh => e1 ⟨hp, by simpa using hh⟩, fun hh => e2 (fun hbw => hh (by rw [hbw.2]))⟩
      · have hs' := getD_undef (hs.2 hp) want
        exact ⟨fun hh => absurd hh hs', fun _ => e2 (fun hbw => hp hbw.1)⟩
    · exact he.elim
end
end Lk
