/-
  The abstract machine, part 21: less is said; loops; code.
-/
import Derived.Test.YtbfhhfbblnkdhaaLk20
namespace Lk
open Go Go.RowKit

/-- v' says less than v, after the names are counted anew. -/
def SubV (c : Nat → Nat) : AV → AV → Prop
  | v, .undef => True
  | .c x, .c y => CEq x y
  | .nil _, .nil _ => True
  | .nil _, .c (.sl _ n _) => n = 0
  | .os s q size off len, .os s' q' size' off' len' => s = s' ∧ q = q' + c s ∧ size = size' ∧ off = off' ∧ len = len'
  | .va s q col, .va s' q' col' => s = s' ∧ q = q' + c s ∧ col = col'
  | .ra s q size row col, .ra s' q' size' row' col' => s = s' ∧ q = q' + c s ∧ size = size' ∧ row = row' ∧ col = col'
  | .ip n f col, .ip n' f' col' => n = n' ∧ col = col' ∧ ∀ j, j < n → CEq (f j) (f' j)
  | .agg n f, .agg n' f' => n = n' ∧ ∀ j, j < n → SubV c (f j) (f' j)
  | .tup n f, .tup n' f' => n = n' ∧ ∀ j, j < n → SubV c (f j) (f' j)
  | _, _ => False

structure SubE (c : Nat → Nat) (e e' : Ent) : Prop where
  size : e.size = e'.size
  n : e.n = e'.n
  fz : e'.fz = false → e.fz = false
  ap : e'.ap = true → e.ap = true
  cont : ∀ i, i < e.n → ∀ j, j < e.size → SubV c (e.c.at i j) (e'.c.at i j)

/-- st' says less than st. c: what the names of st' lag behind. -/
structure LeC (c : Nat → Nat) (st st' : St) : Prop where
  gc : ∀ s, st.gc s = st'.gc s + c s
  fr : ∀ k, SubV c (st.fr k) (st'.fr k)
  hp : ∀ s e', st'.hp s = some e' → ∃ e, st.hp s = some e ∧ SubE c e e'

section
variable {P : Program} {O : Nat → Prop} {W : World} {N : Nat} {a : Act} {w : World} {be : Nm}

theorem SubV.ra {c : Nat → Nat} {be be' : Nm} {g g' : Nat → Nat} {Q Q' : Nat → Prop} (hQ : ∀ b, Q' b → Q b) (hg : ∀ s, g s = g' s + c s) (hbe : ∀ s q, be' s q = be s (q + c s)) :
    ∀ {v v' : AV}, SubV c v v' → ∀ u, RA be g Q w v u → RA be' g' Q' w v' u := by
  have hrc : ∀ x u, RC Q w x u → RC Q' w x u := fun x u => RC.keep (fun b _ => hQ b) (fun _ _ _ _ h => h) u
  have hund : ∀ u, RA be' g' Q' w .undef u := fun _ => trivial
  intro v
  induction v with
  | undef => intro v' h u hu; cases v' <;> first | exact hund u | exact h.elim
  | c x =>
    intro v' h u hu
    cases v' with
    | undef => exact hund u
    | c y => exact (show CEq x y from h).rc u (hrc x u hu)
    | _ => exact h.elim
  | nil z =>
    intro v' h u hu
    cases v' with
    | undef => exact hund u
    | nil z' => exact hu
    | c y =>
      cases y with
      | sl z' n f => exact .inl ⟨show n = 0 from h, none, hu⟩
      | _ => exact h.elim
    | _ => exact h.elim
  | os s q size off len =>
    intro v' h u hu
    cases v' with
    | undef => exact hund u
    | os s' q' size' off' len' =>
      obtain ⟨rfl, rfl, rfl, rfl, rfl⟩ := h
      obtain ⟨hq, hu⟩ := hu
      refine ⟨by have := hg s; omega, ?_⟩
      rw [hbe]
      exact hu
    | _ => exact h.elim
  | va s q col =>
    intro v' h u hu
    cases v' with
    | undef => exact hund u
    | va s' q' col' =>
      obtain ⟨rfl, rfl, rfl⟩ := h
      obtain ⟨hq, b, hb, hu⟩ := hu
      exact ⟨by have := hg s; omega, b, by rw [hbe]; exact hb, hu⟩
    | _ => exact h.elim
  | ra s q size row col =>
    intro v' h u hu
    cases v' with
    | undef => exact hund u
    | ra s' q' size' row' col' =>
      obtain ⟨rfl, rfl, rfl, rfl, rfl⟩ := h
      obtain ⟨hq, b, hb, hu⟩ := hu
      exact ⟨by have := hg s; omega, b, by rw [hbe]; exact hb, hu⟩
    | _ => exact h.elim
  | ip n f col =>
    intro v' h u hu
    cases v' with
    | undef => exact hund u
    | ip n' f' col' =>
      obtain ⟨rfl, rfl, h⟩ := h
      obtain ⟨b, o, hu, hc⟩ := hu
      refine ⟨b, o, hu, fun j hj => ?_⟩
      obtain ⟨h1, u', hu', hr⟩ := hc j hj
      exact ⟨fun h2 => h1 (hQ b h2), u', hu', (h j hj).rc u' (hrc _ u' hr)⟩
    | _ => exact h.elim
  | agg n f ih =>
    intro v' h u hu
    cases v' with
    | undef => exact hund u
    | agg n' f' =>
      obtain ⟨rfl, h⟩ := h
      obtain ⟨cs, hu, hn, hc⟩ := hu
      refine ⟨cs, hu, hn, fun j hj => ?_⟩
      obtain ⟨u', hu', h1, hr⟩ := hc j hj
      exact ⟨u', hu', h1, ih j (h j hj) u' hr⟩
    | _ => exact h.elim
  | tup n f ih =>
    intro v' h u hu
    cases v' with
    | undef => exact hund u
    | tup n' f' =>
      obtain ⟨rfl, h⟩ := h
      obtain ⟨cs, hu, hn, hc⟩ := hu
      refine ⟨cs, hu, hn, fun j hj => ?_⟩
      obtain ⟨u', hu', hr⟩ := hc j hj
      exact ⟨u', hu', ih j (h j hj) u' hr⟩
    | _ => exact h.elim
  | may p v ih => intro v' h u hu; cases v' <;> first | exact hund u | exact h.elim

theorem LeC.le {c : Nat → Nat} {st st' : St} (h : LeC c st st') : Le st st' := by
  intro O W N a w be hr
  let be' : Nm := fun s q => be s (q + c s)
  have hcur : ∀ s, be' s (st'.gc s) = be s (st.gc s) := fun s => by simp only [be']; rw [h.gc s]
  have hown : ∀ b, own O be' st' b → own O be st b := fun b hb => by
    rcases hb with hb | ⟨s, e', h1, h2, h3⟩
    · exact .inl hb
    · obtain ⟨e, he, hse⟩ := h.hp s e' h1
      exact .inr ⟨s, e, he, hse.fz h2, by rw [← hcur]; exact h3⟩
  refine ⟨be', hr.size, hr.defers, hr.below, hr.outer, fun s q b hb => hr.names s _ b hb, fun k => (h.fr k).ra hown h.gc (fun _ _ => rfl) _ (hr.slot k), fun s e' he' => ?_, fun s s' e e' b h1 h2 h3 h4 h5 => ?_⟩
  · obtain ⟨e, he, hse⟩ := h.hp s e' he'
    unfold EntOk
    rw [hcur]
    rcases hr.ent s e he with ⟨h1, h2⟩ | ⟨b, cs, el, fz, h1, h2, h3, h4⟩
    · exact .inl ⟨h1, by rw [← hse.n]; exact h2⟩
    · refine .inr ⟨b, cs, el, fz, h1, h2, h3, by rw [← hse.n, ← hse.size]; exact h4.fit, h4.clean, fun ha => h4.plain (hse.ap ha), h4.one, fun i hi j hj => ?_⟩
      rw [← hse.n] at hi
      rw [← hse.size] at hj ⊢
      obtain ⟨u, hu, hra⟩ := h4.cont i hi j hj
      exact ⟨u, hu, (hse.cont i hi j hj).ra hown h.gc (fun _ _ => rfl) u hra⟩
  · obtain ⟨e1, he1, hs1⟩ := h.hp s e h1
    obtain ⟨e2, he2, hs2⟩ := h.hp s' e' h2
    rw [hcur] at h3 h4
    exact hr.dist s s' e1 e2 b he1 he2 h3 h4 (hs1.fz h5)

theorem CEq.refl : ∀ (x : Cell), CEq x x
  | .int _ _ => rfl
  | .bool _ => rfl
  | .str _ => rfl
  | .fn _ => rfl
  | .sl size n f => ⟨size, f, rfl, fun _ => ⟨rfl, fun i _ j _ => CEq.refl (f i j)⟩⟩

/-! laid anew -/

theorem normF_run : ∀ (ks : List Nat) (fr acc : Nat → AV) (K : (Nat → AV) → Prop), normF ks fr acc K → ∃ fr', K fr' ∧ ∀ k, fr' k = acc k ∨ fr' k = fr k
  | [], fr, acc, K, h => ⟨acc, h, fun k => .inl rfl⟩
  | k :: r, fr, acc, K, h => by
    replace h := (frc_iff _ _).1 h
    obtain ⟨fr', hk, hf⟩ := normF_run r fr _ K h
    refine ⟨fr', hk, fun j => ?_⟩
    rcases hf j with hj | hj
    · by_cases hjk : j = k
      · subst hjk; rw [setF_same] at hj; exact .inr hj
      · rw [setF_ne _ _ hjk] at hj; exact .inl hj
    · exact .inr hj

theorem rowF_run : ∀ (m j : Nat) (f : Nat → AV) (K : (Nat → AV) → Prop), rowF m j f K → ∃ g, K g ∧ ∀ i, i < m → g i = f (j + i)
  | 0, j, f, K, h => ⟨_, h, fun i hi => absurd hi (by omega)⟩
  | m + 1, j, f, K, h => by
    replace h := (frc_iff _ _).1 h
    obtain ⟨g, hk, hg⟩ := rowF_run m (j + 1) f _ h
    refine ⟨_, hk, fun i hi => ?_⟩
    cases i with
    | zero => rfl
    | succ i => rw [show j + (i + 1) = j + 1 + i by omega]; exact hg i (by omega)

/-- Equal up to what is in it. -/
def SameE (e e' : Ent) : Prop := e.size = e'.size ∧ e.n = e'.n ∧ e.fz = e'.fz ∧ e.ap = e'.ap ∧ ∀ i j, j < e.size → e.c.at i j = e'.c.at i j

theorem normE_run {e : Ent} {K : Ent → Prop} (h : normE e K) : ∃ e', K e' ∧ SameE e e' := by
  obtain ⟨size, n, c, fz, ap⟩ := e
  unfold normE at h
  cases c with
  | dat c => exact ⟨_, h, rfl, rfl, rfl, rfl, fun _ _ _ => rfl⟩
  | gen c => exact ⟨_, h, rfl, rfl, rfl, rfl, fun _ _ _ => rfl⟩
  | var c =>
    obtain ⟨g, hk, hg⟩ := rowF_run size 0 c _ h
    exact ⟨_, hk, rfl, rfl, rfl, rfl, fun i j hj => by show c j = g j; rw [hg j hj, Nat.zero_add]⟩

theorem normH_run : ∀ (ss : List Nat) (hp acc : Nat → Option Ent) (K : (Nat → Option Ent) → Prop), normH ss hp acc K → ∃ hp', K hp' ∧ ∀ s e', hp' s = some e' → acc s = some e' ∨ ∃ e, hp s = some e ∧ SameE e e'
  | [], hp, acc, K, h => ⟨acc, h, fun s e' he => .inl he⟩
  | s :: r, hp, acc, K, h => by
    unfold normH at h
    split at h
    · rename_i e he
      obtain ⟨e1, h, hs⟩ := normE_run h
      obtain ⟨hp', hk, hf⟩ := normH_run r hp _ K h
      refine ⟨hp', hk, fun s' e' he' => ?_⟩
      rcases hf s' e' he' with h1 | h1
      · by_cases hss : s' = s
        · subst hss
          rw [setH_same] at h1
          rw [← Option.some.inj h1]
          exact .inr ⟨e, he, hs⟩
        · rw [setH_ne _ _ hss] at h1; exact .inl h1
      · exact .inr h1
    · exact normH_run r hp acc K h

theorem SubV.refl0 {be : Nm} {g : Nat → Nat} {Q : Nat → Prop} : ∀ (v : AV) (u : Value), RA be g Q w v u → RA be g Q w v u := fun _ _ h => h

/-- Slots or entries are dropped. -/
theorem Rel.drop {st st' : St} (hr : Rel O W N st a w be) (hg : st'.gc = st.gc) (hf : ∀ k, st'.fr k = .undef ∨ st'.fr k = st.fr k) (hh : ∀ s e', st'.hp s = some e' → ∃ e, st.hp s = some e ∧ SameE e e') : Rel O W N st' a w be := by
  have hown : ∀ b, own O be st' b → own O be st b := fun b hb => by
    rcases hb with hb | ⟨s, e', h1, h2, h3⟩
    · exact .inl hb
    · obtain ⟨e, he, hs⟩ := hh s e' h1
      exact .inr ⟨s, e, he, hs.2.2.1.trans h2, by rw [← hg]; exact h3⟩
  have k : Keeps be st.gc (own O be st) w be st'.gc (own O be st') w := by rw [hg]; exact Keeps.less hown
  refine ⟨hr.size, hr.defers, hr.below, hr.outer, hr.names, fun i => ?_, fun s e' he' => ?_, fun s s' e e' b h1 h2 h3 h4 h5 => ?_⟩
  · rcases hf i with h1 | h1
    · rw [h1]; trivial
    · rw [h1]; exact k.ra _ (hr.slot i)
  · obtain ⟨e, he, q1, q2, q3, q4, q5⟩ := hh s e' he'
    unfold EntOk
    rw [hg]
    rcases hr.ent s e he with ⟨h1, h2⟩ | ⟨b, cs, el, fz, h1, h2, h3, h4⟩
    · exact .inl ⟨h1, by rw [← q2]; exact h2⟩
    · refine .inr ⟨b, cs, el, fz, h1, h2, h3, by rw [← q1, ← q2]; exact h4.fit, h4.clean, fun ha => h4.plain (q4.trans ha), h4.one, fun i hi j hj => ?_⟩
      rw [← q2] at hi
      rw [← q1] at hj ⊢
      obtain ⟨u, hu, hra⟩ := h4.cont i hi j hj
      refine ⟨u, hu, ?_⟩
      rw [← q5 i j hj]
      rw [hg] at k
      exact k.ra u hra
  · obtain ⟨e1, he1, hs1⟩ := hh s e h1
    obtain ⟨e2, he2, _⟩ := hh s' e' h2
    rw [hg] at h3 h4
    exact hr.dist s s' e1 e2 b he1 he2 h3 h4 (hs1.2.2.1.trans h5)

theorem normO_run {keep : Option (List Nat × List Nat)} {st : St} {K : St → Prop} (h : normO keep st K) (hr : Rel O W N st a w be) : ∃ st', K st' ∧ Rel O W N st' a w be := by
  unfold normO at h
  cases keep with
  | none => exact ⟨st, h, hr⟩
  | some p =>
    obtain ⟨ks, ss⟩ := p
    obtain ⟨fr, hp, gc⟩ := st
    replace h : normF ks fr (fun _ => .undef) fun fr => normH ss hp (fun _ => none) fun hp => K ⟨fr, hp, gc⟩ := h
    obtain ⟨fr', h, hf⟩ := normF_run _ _ _ _ h
    obtain ⟨hp', h, hh⟩ := normH_run _ _ _ _ h
    exact ⟨_, h, hr.drop rfl hf fun s e' he' => (hh s e' he').resolve_left (by simp)⟩

/-! code -/

/-- What is said at the model's exits. -/
def Qc (O : Nat → Prop) (W : World) (N : Nat) (Q : AX → St → Prop) : Exit → Act → World → Prop
  | .normal, a, w => ∃ st be, Q .normal st ∧ Rel O W N st a w be
  | .exit id, a, w => ∃ st be, Q (.exit id) st ∧ Rel O W N st a w be
  | .ret, a, w => ∃ st be, Q .ret st ∧ Rel O W N st a w be
  | _, _, _ => False

/-- A loop whose rounds count something down that is in no slot. -/
theorem wp_loop_gh {c : Code} {Q : Exit → Act → World → Prop} {X : Type} (S : X → Act → World → Prop) (mu : X → Nat) (x0 : X) (h0 : S x0 a w)
    (round : ∀ x a w, S x a w → c.wp P (Exit.then (fun a' w' => ∃ x', mu x' < mu x ∧ S x' a' w') Q) a w) : (Code.loop c).wp P Q a w := by
  intro b k cs
  have key : ∀ n x a w, mu x = n → S x a w →
      ∃ e a' w', Q e a' w' ∧ Arrives P (lone (b.at a (.code c :: .inLoop c :: k)) cs w) b k cs e a' w' := by
    intro n
    induction n using Nat.strongRecOn with
    | _ n ih =>
      intro x a w hn hI
      obtain ⟨e, a₁, w₁, hq, harr⟩ := round x a w hI b (.inLoop c :: k) cs
      cases e with
      | normal =>
        obtain ⟨x', hlt, hS⟩ := hq
        obtain ⟨e₂, a₂, w₂, hq₂, harr₂⟩ := ih (mu x') (hn ▸ hlt) x' a₁ w₁ rfl hS
        exact ⟨e₂, a₂, w₂, hq₂, .of_steps (Steps.trans harr (.one step_inLoop)) harr₂⟩
      | exit id => exact ⟨_, a₁, w₁, hq, .pass (x := .inLoop c) rfl (fun _ _ => .inl (by simp)) harr⟩
      | goto l => exact ⟨_, a₁, w₁, hq, .pass (x := .inLoop c) rfl (fun _ _ => .inl (by simp)) harr⟩
      | ret => exact ⟨_, a₁, w₁, hq, .pass (x := .inLoop c) rfl (fun _ _ => .inl (by simp)) harr⟩
      | panic ch => exact ⟨_, a₁, w₁, hq, .pass (x := .inLoop c) rfl (fun _ _ => .inl (by simp)) harr⟩
      | outgrown => exact ⟨_, a₁, w₁, hq, .pass (x := .inLoop c) rfl (fun _ _ => .inl (by simp)) harr⟩
  obtain ⟨e, a', w', hq, harr⟩ := key _ x0 a w rfl h0
  exact ⟨e, a', w', hq, .of_steps (.one step_loop) harr⟩

def chkCode (P : Program) (N : Nat) : Code → ACode → Bool
  | .skip, .skip => true
  | .label _, .skip => true
  | .seq x y, .seq x' y' => chkCode P N x x' && chkCode P N y y'
  | .cond c x y, .cond c' x' y' => chkX c c' && chkCode P N x x' && chkCode P N y y'
  | .block id x, .block id' x' => Nat.beq id id' && chkCode P N x x'
  | .loop x, .loop x' => chkCode P N x x'
  | .exit id, .exit id' => Nat.beq id id'
  | .ret, .ret => true
  | .scope x, .scope x' => chkCode P N x x'
  | .region _ ops draw, .reg aops _ => !draw && chkOps P N ops ops.toList aops
  | .region _ ops draw, .regD aops U _ => draw && chkOps P N ops ops.toList aops && chkBack ops.toList 0 && chkAll U aops (ancs ops.toList []) aops 0
  | _, .halt => true
  | _, _ => false

theorem awp_sound (hm : P.follows .mixedOrders = true) : ∀ (ac : ACode) (c : Code) (Q : AX → St → Prop) (st : St) (a : Act) (w : World) (be : Nm), chkCode P N c ac = true → awp P ac Q st → Rel O W N st a w be → c.wp P (Qc O W N Q) a w := by
  intro ac
  induction ac with
  | skip =>
    intro c Q st a w be hc h hr
    cases c <;> first | (exfalso; exact Bool.false_ne_true hc) | skip
    · exact wp_skip ⟨st, be, h, hr⟩
    · exact wp_label ⟨st, be, h, hr⟩
  | seq x y ihx ihy =>
    intro c Q st a w be hc h hr
    cases c <;> first | (exfalso; exact Bool.false_ne_true hc) | skip
    rename_i cx cy
    simp only [chkCode, Bool.and_eq_true] at hc
    refine wp_seq (wp_mono (ihx cx _ st a w be hc.1 h hr) fun e a' w' hq => ?_)
    cases e with
    | normal =>
      obtain ⟨st', be', hQ, hr'⟩ := hq
      exact ihy cy Q st' a' w' be' hc.2 hQ hr'
    | exit id => obtain ⟨st', be', hQ, hr'⟩ := hq; exact ⟨st', be', hQ, hr'⟩
    | ret => obtain ⟨st', be', hQ, hr'⟩ := hq; exact ⟨st', be', hQ, hr'⟩
    | goto l => exact hq.elim
    | panic ch => exact hq.elim
    | outgrown => exact hq.elim
  | cond o x y ihx ihy =>
    intro c Q st a w be hc h hr
    cases c <;> first | (exfalso; exact Bool.false_ne_true hc) | skip
    rename_i cc cx cy
    simp only [chkCode, Bool.and_eq_true] at hc
    replace h : (rd True st.fr o).run _ := h
    obtain ⟨v, h, hv⟩ := rd_sound hr.slot hc.1.1 h
    split at h
    case h_2 => exact h.elim
    rename_i b
    have e : a.eval cc = .bool b := hv trivial
    cases b with
    | true => exact wp_cond_true e (ihx cx Q st a w be hc.1.2 (h.l rfl) hr)
    | false => exact wp_cond_false e (ihy cy Q st a w be hc.2 (h.r rfl) hr)
  | block id x ih =>
    intro c Q st a w be hc h hr
    cases c <;> first | (exfalso; exact Bool.false_ne_true hc) | skip
    rename_i id' cx
    simp only [chkCode, Bool.and_eq_true] at hc
    obtain rfl := beqN hc.1
    refine wp_block (wp_mono (ih cx _ st a w be hc.2 h hr) fun e a' w' hq => ?_)
    cases e with
    | normal => exact hq
    | exit i =>
      obtain ⟨st', be', hQ, hr'⟩ := hq
      simp only [Exit.inBlock]
      by_cases hi : i = id'
      · rw [if_pos hi]
        subst hi
        have hb : Nat.beq i i = true := by simp
        replace hQ : cond (Nat.beq i i) (Q .normal st') (Q (.exit i) st') := hQ
        rw [hb] at hQ
        exact ⟨st', be', hQ, hr'⟩
      · rw [if_neg hi]
        replace hQ : cond (Nat.beq i id') (Q .normal st') (Q (.exit i) st') := hQ
        rw [beq_ne hi] at hQ
        exact ⟨st', be', hQ, hr'⟩
    | ret => exact hq
    | goto l => exact hq.elim
    | panic ch => exact hq.elim
    | outgrown => exact hq.elim
  | loop x ih =>
    intro c Q st a w be hc h hr
    cases c <;> first | (exfalso; exact Bool.false_ne_true hc) | skip
    rename_i cx
    obtain ⟨X, S, mu, ⟨x0, hle⟩, hround⟩ := (show LoopVC st (awp P x) Q from h).out
    obtain ⟨be', hr'⟩ := hle O W N a w be hr
    refine wp_loop_gh (fun x a w => ∃ be, Rel O W N (S x) a w be) mu x0 ⟨be', hr'⟩ fun x1 a1 w1 hx1 => ?_
    obtain ⟨be1, hr1⟩ := hx1
    refine wp_mono (ih cx _ (S x1) a1 w1 be1 hc (hround x1) hr1) fun e a' w' hq => ?_
    cases e with
    | normal =>
      obtain ⟨st', be', hQ, hr'⟩ := hq
      obtain ⟨x', hlt, hle'⟩ := hQ.h
      obtain ⟨be'', hr''⟩ := hle' O W N a' w' be' hr'
      exact ⟨x', hlt, be'', hr''⟩
    | exit id => obtain ⟨st', be', hQ, hr'⟩ := hq; exact ⟨st', be', hQ.h, hr'⟩
    | ret => obtain ⟨st', be', hQ, hr'⟩ := hq; exact ⟨st', be', hQ.h, hr'⟩
    | goto l => exact hq.elim
    | panic ch => exact hq.elim
    | outgrown => exact hq.elim
  | exit id =>
    intro c Q st a w be hc h hr
    cases c <;> first | (exfalso; exact Bool.false_ne_true hc) | skip
    obtain rfl := beqN hc
    exact wp_exit ⟨st, be, h, hr⟩
  | ret =>
    intro c Q st a w be hc h hr
    cases c <;> first | (exfalso; exact Bool.false_ne_true hc) | skip
    exact wp_ret ⟨st, be, h, hr⟩
  | halt => intro c Q st a w be hc h hr; exact h.elim
  | scope x ih =>
    intro c Q st a w be hc h hr
    cases c <;> first | (exfalso; exact Bool.false_ne_true hc) | skip
    rename_i cx
    refine wp_scope_straight (wp_mono (ih cx Q st a w be hc h hr) fun e a' w' hq => ?_)
    cases e with
    | goto l => exact hq.elim
    | _ => exact hq
  | reg aops keep =>
    intro c Q st a w be hc h hr
    cases c <;> first | (exfalso; exact Bool.false_ne_true hc) | skip
    rename_i id ops draw
    simp only [chkCode, Bool.and_eq_true, Bool.not_eq_true'] at hc
    obtain ⟨rfl, hc⟩ := hc
    refine region_sound hc h hr fun st' a' w' be' hK hr' => ?_
    obtain ⟨st'', hQ, hr''⟩ := normO_run hK hr'
    exact ⟨st'', be', hQ, hr''⟩
  | regD aops U keep =>
    intro c Q st a w be hc h hr
    cases c <;> first | (exfalso; exact Bool.false_ne_true hc) | skip
    rename_i id ops draw
    simp only [chkCode, Bool.and_eq_true] at hc
    obtain ⟨⟨⟨rfl, h1⟩, h2⟩, h3⟩ := hc
    refine draw_sound (K := fun st' => normO keep st' (Q .normal)) hm ⟨h1, h2, h3⟩ h hr fun st' a' w' be' hK hr' => ?_
    obtain ⟨st'', hQ, hr''⟩ := normO_run hK hr'
    exact ⟨st'', be', hQ, hr''⟩

end
end Lk
