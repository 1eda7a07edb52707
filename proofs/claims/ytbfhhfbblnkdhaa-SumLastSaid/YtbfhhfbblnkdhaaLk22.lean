/-
  The abstract machine, part 22: a function's contract.
-/
import Derived.Test.YtbfhhfbblnkdhaaLk21
namespace Lk
open Go Go.RowKit

section
variable {P : Program} {O : Nat → Prop} {W : World} {N : Nat} {a : Act} {w : World} {be : Nm} {fr : Nat → AV} {hp : Nat → Option Ent} {gc : Nat → Nat}

/-- A cell of a result, where it is data. -/
def ImC (Q : Nat → Prop) (w : World) (x : RCell) (u : Value) : Prop := ∀ y, x = .im y → RC Q w y u

theorem isOne_m {α : Type} {v : AV} {m : M α} {K : α → Prop} (h : (isOne v m).run K) : m.run K := by
  unfold isOne at h
  split at h <;> first | exact h | exact h.elim

theorem frzRN_run : ∀ (m : Nat) (f : Nat → AV) (g : Nat → RCell) (hp : Nat → Option Ent) (K : List (Nat × Ent) → Prop), (frzRN hp gc m f g).run K →
    ∃ hs, K hs ∧ ∀ {O W N fr a w be}, Fz O W N fr gc a w be hp (putH hs hp) ∧ (Rel O W N ⟨fr, hp, gc⟩ a w be → ∀ i, i < m → ∀ u, RA be gc (own O be ⟨fr, hp, gc⟩) w (f i) u → ImC (own O be ⟨fr, putH hs hp, gc⟩) w (g i) u)
  | 0, f, g, hp, K, h => ⟨_, h, fun {_ _ _ _ _ _ _} => ⟨Fz.refl _, fun _ i hi => absurd hi (by omega)⟩⟩
  | m + 1, f, g, hp, K, h => by
    unfold frzRN at h
    split at h
    · rename_i x hx
      simp only [M.run_bind, M.run_need] at h
      replace h := frzC_run h
      obtain ⟨y, hs1, ⟨he, h⟩, p1⟩ := h
      replace h := frzRN_run m _ _ _ _ h
      obtain ⟨hs2, h, p2⟩ := h
      refine ⟨_, h, fun {O W N fr a w be} => ?_⟩
      obtain ⟨f1, r1⟩ := p1 (O := O) (W := W) (N := N) (fr := fr) (a := a) (w := w) (be := be)
      obtain ⟨f2, r2⟩ := p2 (O := O) (W := W) (N := N) (fr := fr) (a := a) (w := w) (be := be)
      simp only [putH_append]
      refine ⟨f1.trans f2, fun r i hi u hu => ?_⟩
      cases i with
      | zero =>
        intro z hz
        rw [hx] at hz
        cases hz
        exact (f2.keeps (f1.rel r)).rc (he.rc u (r1 r u hu))
      | succ i => exact r2 (f1.rel r) i (by omega) u ((f1.keeps r).ra u hu)
    · rename_i hx
      replace h := frzRN_run m _ _ _ _ h
      obtain ⟨hs2, h, p2⟩ := h
      refine ⟨_, h, fun {O W N fr a w be} => ?_⟩
      obtain ⟨f2, r2⟩ := p2 (O := O) (W := W) (N := N) (fr := fr) (a := a) (w := w) (be := be)
      refine ⟨f2, fun r i hi u hu => ?_⟩
      cases i with
      | zero => intro z hz; rw [hx] at hz; cases hz
      | succ i => exact r2 r i (by omega) u hu

/-- A result, where its cells are data. -/
def ImV (Q : Nat → Prop) (w : World) : RV → Value → Prop
  | .one x, u => u.oneCell' = true ∧ ImC Q w x u
  | .many n g, u => ∃ cs : Array Value, u = .agg cs ∧ cs.size = n ∧ n ≤ 32 ∧ ∀ j, j < n → ∃ u', cs[j]? = some u' ∧ u'.oneCell' = true ∧ ImC Q w (g j) u'

theorem frzRV_run {v : AV} {r : RV} {hp : Nat → Option Ent} {K : List (Nat × Ent) → Prop} (h : (frzRV hp gc v r).run K) :
    ∃ hs, K hs ∧ ∀ {O W N fr a w be}, Fz O W N fr gc a w be hp (putH hs hp) ∧ (Rel O W N ⟨fr, hp, gc⟩ a w be → ∀ u, RA be gc (own O be ⟨fr, hp, gc⟩) w v u → ImV (own O be ⟨fr, putH hs hp, gc⟩) w r u) := by
  unfold frzRV at h
  split at h
  · rename_i x
    have h0 := h
    replace h := isOne_m h
    obtain ⟨hs, h, p⟩ := frzRN_run 1 _ _ _ _ h
    refine ⟨hs, h, fun {O W N fr a w be} => ?_⟩
    obtain ⟨f1, r1⟩ := p (O := O) (W := W) (N := N) (fr := fr) (a := a) (w := w) (be := be)
    exact ⟨f1, fun r u hu => ⟨(isOne_run h0).2 _ hu, r1 r 0 (by omega) u hu⟩⟩
  · split at h
    · rename_i n g _ m f
      rw [M.run_iff', Bool.and_eq_true] at h
      obtain ⟨⟨hm, h32⟩, h⟩ := h
      obtain rfl := beqN hm
      obtain ⟨hs, h, p⟩ := frzRN_run _ _ _ _ _ h
      refine ⟨hs, h, fun {O W N fr a w be} => ?_⟩
      obtain ⟨f1, r1⟩ := p (O := O) (W := W) (N := N) (fr := fr) (a := a) (w := w) (be := be)
      refine ⟨f1, fun r u hu => ?_⟩
      obtain ⟨cs, hc, hn, hall⟩ := hu
      refine ⟨cs, hc, hn, Nat.le_of_ble_eq_true h32, fun j hj => ?_⟩
      obtain ⟨u', hu', h1, hr⟩ := hall j hj
      exact ⟨u', hu', h1, r1 r j hj u' hr⟩
    · exact h.elim

theorem frzRL_run : ∀ (ks : List Nat) (rs : List RV) (hp : Nat → Option Ent) (K : List (Nat × Ent) → Prop), (frzRL hp gc True fr ks rs).run K →
    ks.length = rs.length ∧ ∃ hs, K hs ∧ ∀ {O W N a w be}, Fz O W N fr gc a w be hp (putH hs hp) ∧ (Rel O W N ⟨fr, hp, gc⟩ a w be → ∀ (i : Nat) (r : RV) (k : Nat), rs[i]? = some r → ks[i]? = some k → ImV (own O be ⟨fr, putH hs hp, gc⟩) w r (a.tmps.getD k Go.undef))
  | [], [], hp, K, h => ⟨rfl, _, h, fun {_ _ _ _ _ _} => ⟨Fz.refl _, fun _ i r k h => absurd h (by simp)⟩⟩
  | [], _ :: _, hp, K, h => h.elim
  | _ :: _, [], hp, K, h => h.elim
  | k :: ks, r :: rs, hp, K, h => by
    simp only [frzRL, M.run_bind] at h
    replace h := rd_run (fr := fr) (x := .t k) h
    obtain ⟨v, h, hv⟩ := h
    replace h := frzRV_run h
    obtain ⟨hs1, h, p1⟩ := h
    replace h := frzRL_run ks rs _ _ h
    obtain ⟨hl, hs2, h, p2⟩ := h
    refine ⟨by simp [hl], _, h, fun {O W N a w be} => ?_⟩
    obtain ⟨f1, r1⟩ := p1 (O := O) (W := W) (N := N) (fr := fr) (a := a) (w := w) (be := be)
    obtain ⟨f2, r2⟩ := p2 (O := O) (W := W) (N := N) (a := a) (w := w) (be := be)
    simp only [putH_append]
    refine ⟨f1.trans f2, fun rel i r' k' hr hk => ?_⟩
    cases i with
    | zero =>
      simp only [List.getElem?_cons_zero, Option.some.injEq] at hr hk
      subst hr; subst hk
      have h1 := r1 rel (a.tmps.getD k Go.undef) (hv trivial _ _ _ _ _ (rel.slot k))
      have kp := f2.keeps (f1.rel rel)
      cases r with
      | one x => exact ⟨h1.1, fun y hy => kp.rc (h1.2 y hy)⟩
      | many n g =>
        obtain ⟨cs, hc, hn, h32, hall⟩ := h1
        refine ⟨cs, hc, hn, h32, fun j hj => ?_⟩
        obtain ⟨u', hu', h2, hi⟩ := hall j hj
        exact ⟨u', hu', h2, fun y hy => kp.rc (hi y hy)⟩
    | succ i =>
      simp only [List.getElem?_cons_succ] at hr hk
      exact r2 (f1.rel rel) i r' k' hr hk

/-! own results -/

/-- A cell of a result, where it is the caller's own; pl: places and their sites. -/
def OwC (gc : Nat → Nat) (be : Nm) (Q : Nat → Prop) (w : World) (B : Nat) (pl : List (Nat × Option Nat)) (t : Nat) (x : RCell) (u : Value) : Prop :=
  ∀ size n f, x = .ow size n f → ((t, none) ∈ pl ∧ n = 0 ∧ u = .slice none 0 0) ∨ ∃ s, (t, some s) ∈ pl ∧ RO Q w B (be s (gc s)) size n f u

def PlOk (hp : Nat → Option Ent) (pl : List (Nat × Option Nat)) : Prop := ∀ t s, (t, some s) ∈ pl → ∃ e, hp s = some e ∧ e.fz = false

theorem OwC.mono {be : Nm} {Q : Nat → Prop} {B : Nat} {pl pl' : List (Nat × Option Nat)} {t : Nat} {x : RCell} {u : Value} (hs : ∀ p, p ∈ pl → p ∈ pl') (h : OwC gc be Q w B pl t x u) : OwC gc be Q w B pl' t x u :=
  fun size n f hx => (h size n f hx).imp (fun h => ⟨hs _ h.1, h.2⟩) fun ⟨s, h1, h2⟩ => ⟨s, hs _ h1, h2⟩

theorem RO_of (rel : Rel O W N ⟨fr, hp, gc⟩ a w be) {s size len n : Nat} {f : Nat → Nat → Cell} {e : Ent} (hs : hp s = some e) (hsz : e.size = size) (hap : e.ap = true) (hn : e.n = len) (hl : n = len)
    (hc : ∀ i, i < n → ∀ j, j < size → ∀ u, RA be gc (own O be ⟨fr, hp, gc⟩) w (e.c.at i j) u → RC (own O be ⟨fr, hp, gc⟩) w (f i j) u) {u : Value}
    (hu : RA be gc (own O be ⟨fr, hp, gc⟩) w (.os s (gc s) size 0 len) u) : RO (own O be ⟨fr, hp, gc⟩) w W.heap.size (be s (gc s)) size n f u := by
  subst hsz hn hl
  obtain ⟨_, hu⟩ := hu
  rcases rel.ent s e hs with ⟨h1, h2⟩ | ⟨b, cs, el, fz, h1, h2, h3, h4⟩
  · rcases hu with ⟨_, _, h5, h6⟩ | ⟨b', _, _, _, _, _, hb', _⟩
    · exact .inl ⟨h1, h2, by rw [h6]⟩
    · rw [show be s (gc s) = none from h1] at hb'; cases hb'
  · rcases hu with ⟨h1', _⟩ | ⟨b', o, cap, cs', el', fz', hb', hv, hlc, hx, ho, hh, hcap⟩
    · rw [h1'] at h1; cases h1
    · have : b' = b := by rw [hb'] at h1; exact Option.some.inj h1
      subst this
      rw [hh] at h3
      simp only [Option.some.injEq, Obj.cells.injEq] at h3
      obtain ⟨rfl, rfl, rfl⟩ := h3
      have hfz := h4.plain hap
      subst hfz
      refine .inr ⟨b', o, cap, cs', el', hb', h2, hv, hlc, hx, ⟨hcap, fun h => by rw [ho h, Nat.zero_mul]⟩, hh, h4.one, fun i hi j hj => ?_⟩
      obtain ⟨u', hu', hr⟩ := h4.cont i hi j hj
      exact ⟨u', hu', hc i hi j hj u' hr⟩

theorem ownR1_run {t : Nat} {v : AV} {x : RCell} {K : List (Nat × Option Nat) → Prop} (h : (ownR1 hp gc t v x).run K) :
    ∃ pl, K pl ∧ PlOk hp pl ∧ ∀ {O W N a w be}, Rel O W N ⟨fr, hp, gc⟩ a w be → ∀ u, RA be gc (own O be ⟨fr, hp, gc⟩) w v u → OwC gc be (own O be ⟨fr, hp, gc⟩) w W.heap.size pl t x u := by
  unfold ownR1 at h
  split at h
  · exact ⟨_, h, fun t s h => absurd h (by simp), fun _ u _ size n f hx => by cases hx⟩
  · rename_i size n f
    split at h
    · refine ⟨_, h.r, fun t s h => by simp at h, fun _ u hu size n f hx => ?_⟩
      cases hx
      exact .inl ⟨by simp, h.l, hu⟩
    · rename_i s q sz off len
      replace h := getE_run h
      obtain ⟨rfl, e, hs, h⟩ := h
      rw [M.run_iff', Bool.and_eq_true, Bool.and_eq_true] at h
      obtain ⟨⟨⟨h1, h2⟩, h3⟩, h⟩ := h
      obtain rfl := beqN h1
      have h2 := beqN h2
      replace h := isUn_run h
      rw [M.run_need] at h
      obtain ⟨h4, ⟨rfl, h5, h6⟩, h⟩ := h
      split at h
      · rename_i c hc
        refine ⟨_, h.r, fun t' s' hm => ?_, fun rel u hu size n f hx => ?_⟩
        · simp only [List.mem_singleton, Prod.mk.injEq, Option.some.injEq] at hm
          obtain ⟨_, rfl⟩ := hm
          exact ⟨e, hs, h4⟩
        · cases hx
          refine .inr ⟨s, by simp, RO_of rel hs h2 h3 h5 h6 (fun i hi j hj u hu => ?_) hu⟩
          rw [hc] at hu
          exact (h.l i hi j hj).rc u hu
      · rename_i c hc
        refine ⟨_, h.r, fun t' s' hm => ?_, fun rel u hu size n f hx => ?_⟩
        · simp only [List.mem_singleton, Prod.mk.injEq, Option.some.injEq] at hm
          obtain ⟨_, rfl⟩ := hm
          exact ⟨e, hs, h4⟩
        · cases hx
          refine .inr ⟨s, by simp, RO_of rel hs h2 h3 h5 h6 (fun i hi j hj u hu => ?_) hu⟩
          rw [hc] at hu
          exact (h.l i hi j hj).2.rc u (isDat_RC (h.l i hi j hj).1 hu)
      · exact h.elim
    · exact h.elim

theorem PlOk.append {pl pl' : List (Nat × Option Nat)} (h : PlOk hp pl) (h' : PlOk hp pl') : PlOk hp (pl ++ pl') := fun t s hm => by
  rcases List.mem_append.1 hm with hm | hm
  · exact h t s hm
  · exact h' t s hm

theorem ownRN_run : ∀ (m t : Nat) (f : Nat → AV) (g : Nat → RCell) (K : List (Nat × Option Nat) → Prop), (ownRN hp gc m t f g).run K →
    ∃ pl, K pl ∧ PlOk hp pl ∧ ∀ {O W N a w be}, Rel O W N ⟨fr, hp, gc⟩ a w be → ∀ i, i < m → ∀ u, RA be gc (own O be ⟨fr, hp, gc⟩) w (f i) u → OwC gc be (own O be ⟨fr, hp, gc⟩) w W.heap.size pl (t + i) (g i) u
  | 0, t, f, g, K, h => ⟨_, h, fun t s h => absurd h (by simp), fun _ i hi => absurd hi (by omega)⟩
  | m + 1, t, f, g, K, h => by
    simp only [ownRN, M.run_bind] at h
    obtain ⟨p1, h, k1, r1⟩ := ownR1_run (fr := fr) h
    obtain ⟨p2, h, k2, r2⟩ := ownRN_run m (t + 1) _ _ _ h
    refine ⟨_, h, k1.append k2, fun rel i hi u hu => ?_⟩
    cases i with
    | zero => exact (r1 rel u hu).mono fun p hp => List.mem_append_left _ hp
    | succ i =>
      rw [show t + (i + 1) = t + 1 + i by omega]
      exact (r2 rel i (by omega) u hu).mono fun p hp => List.mem_append_right _ hp

/-- A result, where its cells are the caller's own. -/
def OwV (gc : Nat → Nat) (be : Nm) (Q : Nat → Prop) (w : World) (B : Nat) (pl : List (Nat × Option Nat)) (i : Nat) : RV → Value → Prop
  | .one x, u => OwC gc be Q w B pl (32 * i) x u
  | .many n g, u => ∀ cs : Array Value, u = .agg cs → ∀ j, j < n → ∀ u', cs[j]? = some u' → OwC gc be Q w B pl (32 * i + j) (g j) u'

theorem OwV.mono {be : Nm} {Q : Nat → Prop} {B : Nat} {pl pl' : List (Nat × Option Nat)} {i : Nat} {r : RV} {u : Value} (hs : ∀ p, p ∈ pl → p ∈ pl') (h : OwV gc be Q w B pl i r u) : OwV gc be Q w B pl' i r u := by
  cases r with
  | one x => exact OwC.mono hs h
  | many n g => exact fun cs hc j hj u' hu' => (h cs hc j hj u' hu').mono hs

theorem ownRV_run {i : Nat} {v : AV} {r : RV} {K : List (Nat × Option Nat) → Prop} (h : (ownRV hp gc i v r).run K) :
    ∃ pl, K pl ∧ PlOk hp pl ∧ ∀ {O W N a w be}, Rel O W N ⟨fr, hp, gc⟩ a w be → ∀ u, RA be gc (own O be ⟨fr, hp, gc⟩) w v u → OwV gc be (own O be ⟨fr, hp, gc⟩) w W.heap.size pl i r u := by
  unfold ownRV at h
  split at h
  · exact ownR1_run h
  · split at h
    · rename_i n g _ m f
      rw [M.run_iff'] at h
      obtain ⟨hm, h⟩ := h
      obtain rfl := beqN hm
      obtain ⟨pl, h, k, r⟩ := ownRN_run (fr := fr) _ _ _ _ _ h
      refine ⟨pl, h, k, fun rel u hu cs hc j hj u' hu' => ?_⟩
      obtain ⟨cs', hc', _, hall⟩ := hu
      rw [hc] at hc'
      cases hc'
      obtain ⟨u2, hu2, _, hr⟩ := hall j hj
      rw [hu'] at hu2
      cases hu2
      exact r rel j hj u' hr
    · exact h.elim

theorem ownRL_run : ∀ (ks : List Nat) (rs : List RV) (i0 : Nat) (K : List (Nat × Option Nat) → Prop), (ownRL hp gc fr i0 ks rs).run K → 
    ∃ pl, K pl ∧ PlOk hp pl ∧ ∀ {O W N a w be}, Rel O W N ⟨fr, hp, gc⟩ a w be → ∀ (i : Nat) (r : RV) (k : Nat), rs[i]? = some r → ks[i]? = some k → OwV gc be (own O be ⟨fr, hp, gc⟩) w W.heap.size pl (i0 + i) r (a.tmps.getD k Go.undef)
  | [], [], i0, K, h => ⟨_, h, fun t s h => absurd h (by simp), fun _ i r k h => absurd h (by simp)⟩
  | [], _ :: _, i0, K, h => h.elim
  | _ :: _, [], i0, K, h => h.elim
  | k :: ks, r :: rs, i0, K, h => by
    simp only [ownRL, M.run_bind] at h
    replace h := rd_run (fr := fr) (x := .t k) h
    obtain ⟨v, h, hv⟩ := h
    replace h := ownRV_run (fr := fr) h
    obtain ⟨p1, h, k1, r1⟩ := h
    replace h := ownRL_run ks rs _ _ h
    obtain ⟨p2, h, k2, r2⟩ := h
    refine ⟨_, h, k1.append k2, fun {O W N a w be} rel i r' k' hr hk => ?_⟩
    cases i with
    | zero =>
      simp only [List.getElem?_cons_zero, Option.some.injEq] at hr hk
      subst hr; subst hk
      exact (r1 rel _ (hv trivial _ _ _ _ _ (rel.slot k))).mono fun p hp => List.mem_append_left _ hp
    | succ i =>
      simp only [List.getElem?_cons_succ] at hr hk
      rw [show i0 + (i + 1) = i0 + 1 + i by omega]
      exact (r2 rel i r' k' hr hk).mono fun p hp => List.mem_append_right _ hp

def blP (be : Nm) (gc : Nat → Nat) : List (Nat × Option Nat) → Nat → Option Nat
  | [], _ => none
  | (t, x) :: r, u => if u = t then x.bind fun s => be s (gc s) else blP be gc r u

theorem nodupN_nodup : ∀ {l : List Nat}, nodupN l = true → l.Nodup
  | [], _ => List.nodup_nil
  | x :: r, h => by
    simp only [nodupN, Bool.and_eq_true, Bool.not_eq_true'] at h
    refine List.nodup_cons.2 ⟨fun hm => ?_, nodupN_nodup h.2⟩
    have := List.any_eq_false.1 h.1 x hm
    simp at this

theorem blP_mem {gc : Nat → Nat} : ∀ {pl : List (Nat × Option Nat)} {t : Nat} {x : Option Nat}, (pl.map (·.1)).Nodup → (t, x) ∈ pl → blP be gc pl t = x.bind fun s => be s (gc s)
  | [], t, x, _, h => absurd h (by simp)
  | (t', x') :: r, t, x, hn, h => by
    simp only [List.map_cons, List.nodup_cons] at hn
    rcases List.mem_cons.1 h with h | h
    · cases h; simp [blP]
    · have : t ≠ t' := fun e => hn.1 (e ▸ List.mem_map.2 ⟨_, h, rfl⟩)
      simp only [blP, if_neg this]
      exact blP_mem hn.2 h

theorem blP_some {gc : Nat → Nat} : ∀ {pl : List (Nat × Option Nat)} {t b : Nat}, blP be gc pl t = some b → ∃ s, (t, some s) ∈ pl ∧ be s (gc s) = some b
  | [], t, b, h => absurd h (by simp [blP])
  | (t', x') :: r, t, b, h => by
    simp only [blP] at h
    split at h
    · rename_i ht
      subst ht
      cases x' with
      | none => simp at h
      | some s => exact ⟨s, by simp, h⟩
    · obtain ⟨s, h1, h2⟩ := blP_some h
      exact ⟨s, List.mem_cons_of_mem _ h1, h2⟩

theorem somes_mem : ∀ {pl : List (Nat × Option Nat)} {s : Nat}, s ∈ somes pl ↔ ∃ t, (t, some s) ∈ pl
  | [], s => by simp [somes]
  | (t, some s') :: r, s => by
    simp only [somes, List.mem_cons, somes_mem (pl := r), Prod.mk.injEq, Option.some.injEq]
    constructor
    · rintro (h | ⟨t', h⟩)
      · exact ⟨t, .inl ⟨rfl, h⟩⟩
      · exact ⟨t', .inr h⟩
    · rintro ⟨t', ⟨_, h⟩ | h⟩
      · exact .inl h
      · exact .inr ⟨t', h⟩
  | (t, none) :: r, s => by simp [somes, somes_mem (pl := r)]

theorem place_eq : ∀ {pl : List (Nat × Option Nat)} {t t' s : Nat}, (somes pl).Nodup → (t, some s) ∈ pl → (t', some s) ∈ pl → t = t'
  | [], t, t', s, _, h, _ => absurd h (by simp)
  | (t0, none) :: r, t, t', s, hn, h, h' => by
    simp only [List.mem_cons, Prod.mk.injEq, reduceCtorEq, and_false, false_or] at h h'
    exact place_eq (pl := r) hn h h'
  | (t0, some s0) :: r, t, t', s, hn, h, h' => by
    simp only [somes, List.nodup_cons] at hn
    simp only [List.mem_cons, Prod.mk.injEq, Option.some.injEq] at h h'
    rcases h with ⟨rfl, rfl⟩ | h
    · rcases h' with ⟨rfl, _⟩ | h'
      · rfl
      · exact absurd (somes_mem.2 ⟨_, h'⟩) hn.1
    · rcases h' with ⟨rfl, rfl⟩ | h'
      · exact absurd (somes_mem.2 ⟨_, h⟩) hn.1
      · exact place_eq hn.2 h h'

theorem goH_run : ∀ (hs : List (Nat × Ent)) (hp : Nat → Option Ent) (K : (Nat → Option Ent) → Prop), goH hs hp K → K (putH hs hp)
  | [], _, _, h => h
  | (s, e) :: r, hp, K, h => goH_run r (setH hp s e) K h

/-- The function's end. -/
theorem retP_sound {rs : List Nat} {res : List RV} {st : St} (h : retP rs res st) (hr : Rel O W N st a w be) :
    rs.length = res.length ∧ ∀ v, resVal res (rs.map fun k => a.tmps.getD k Go.undef).toArray v → RRes O W.heap.size w res v := by
  obtain ⟨fr, hp, gc⟩ := st
  replace h := frzRL_run rs res hp _ (show M.run _ _ from h)
  obtain ⟨hl, hs, h, p⟩ := h
  obtain ⟨f1, r1⟩ := p (O := O) (W := W) (N := N) (a := a) (w := w) (be := be)
  replace h := ownRL_run _ _ _ _ (goH_run _ _ _ h)
  obtain ⟨pl, h, k1, r2⟩ := h
  have hr' := f1.rel hr
  have hd : (nodupN (pl.map (·.1)) && nodupN (somes pl)) = true := by
    cases hb : (nodupN (pl.map (·.1)) && nodupN (somes pl)) with
    | true => rfl
    | false => rw [hb] at h; exact h.elim
  rw [Bool.and_eq_true] at hd
  have n1 := nodupN_nodup hd.1
  have n2 := nodupN_nodup hd.2
  refine ⟨hl, fun v hv => ⟨_, blP be gc pl, hv, fun t b hb => ?_, fun t t' b hb hb' => ?_, fun i r hi => ?_⟩⟩
  · obtain ⟨s, h1, h2⟩ := blP_some hb
    obtain ⟨e, he, _⟩ := k1 t s h1
    refine ⟨?_, hr'.names _ _ _ h2⟩
    rcases hr'.ent s e he with ⟨h3, _⟩ | ⟨b', _, _, _, h3, h4, _⟩
    · rw [show be s (gc s) = none from h3] at h2; cases h2
    · rw [show be s (gc s) = some b' from h3] at h2; cases h2; exact h4
  · obtain ⟨s, h1, h2⟩ := blP_some hb
    obtain ⟨s', h1', h2'⟩ := blP_some hb'
    obtain ⟨e, he, hf⟩ := k1 t s h1
    obtain ⟨e', he', _⟩ := k1 t' s' h1'
    obtain rfl := hr'.dist s s' e e' b he he' h2 h2' hf
    exact place_eq n2 h1 h1'
  · have hlt : i < rs.length := by
      rw [hl]
      rcases Nat.lt_or_ge i res.length with h | h
      · exact h
      · rw [List.getElem?_eq_none h] at hi; cases hi
    have hk : rs[i]? = some rs[i] := List.getElem?_eq_getElem hlt
    have im := r1 hr i r _ hi hk
    have ow := r2 hr' i r _ hi hk
    rw [Nat.zero_add] at ow
    have hsub : ∀ b, (O b ∨ ∃ t, blP be gc pl t = some b) → own O be ⟨fr, putH hs hp, gc⟩ b := fun b hb => by
      rcases hb with hb | ⟨t, hb⟩
      · exact .inl hb
      · obtain ⟨s, h1, h2⟩ := blP_some hb
        obtain ⟨e, he, hf⟩ := k1 t s h1
        exact .inr ⟨s, e, he, hf, h2⟩
    have hrc : ∀ x u, RC (own O be ⟨fr, putH hs hp, gc⟩) w x u → RC (fun b => O b ∨ ∃ t, blP be gc pl t = some b) w x u := fun x u hx => RC.keep (fun b _ hb => hsub b hb) (fun _ _ _ _ h => h) u hx
    have cell : ∀ t x u, ImC (own O be ⟨fr, putH hs hp, gc⟩) w x u → OwC gc be (own O be ⟨fr, putH hs hp, gc⟩) w W.heap.size pl t x u → RR1 (fun b => O b ∨ ∃ t, blP be gc pl t = some b) W.heap.size w (blP be gc pl t) x u := fun t x u h1 h2 => by
      cases x with
      | im x => exact hrc x u (h1 x rfl)
      | ow size n f =>
        rcases h2 size n f rfl with ⟨h3, h4, h5⟩ | ⟨s, h3, h4⟩
        · exact .inl ⟨by rw [blP_mem n1 h3]; rfl, h4, h5⟩
        · rw [blP_mem n1 h3]
          show RO _ _ _ (be s (gc s)) _ _ _ _
          rcases h4 with h4 | ⟨b', o, cap, cs, el, q1, q2, q3, q4, q5, q6, q7, q8, q9⟩
          · exact .inl h4
          · refine .inr ⟨b', o, cap, cs, el, q1, q2, q3, q4, q5, q6, q7, q8, fun i hi j hj => ?_⟩
            obtain ⟨u', hu', hx⟩ := q9 i hi j hj
            exact ⟨u', hu', hrc _ _ hx⟩
    refine ⟨a.tmps.getD rs[i] Go.undef, by simp [hk], ?_⟩
    cases r with
    | one x => exact ⟨im.1, cell _ _ _ im.2 ow⟩
    | many n g =>
      obtain ⟨cs, hc, hn, h32, hall⟩ := im
      refine ⟨cs, hc, hn, h32, fun j hj => ?_⟩
      obtain ⟨u', hu', h1, h2⟩ := hall j hj
      exact ⟨u', hu', h1, cell _ _ _ h2 (ow cs hc j hj u' hu')⟩

end
end Lk
