/-
  The abstract machine, part 12: append.
-/
import Derived.Test.YtbfhhfbblnkdhaaLk11
namespace Lk
open Go Go.RowKit
section
variable {P : Program} {O : Nat → Prop} {W : World} {N : Nat} {fr : Nat → AV} {hp : Nat → Option Ent} {gc : Nat → Nat} {a : Act} {w : World} {be : Nm} {o : Oper} {d : Nat} {L : Dl → Prop}

/-- What is appended: m elements, whose cells are news. -/
structure Src (P : Program) (Q : Nat → Prop) (w : World) (size m : Nat) (g : Nat → Nat → Cell) (x : Value) (news : List Value) : Prop where
  len : news.length = m * size
  lenOf : ∀ w', (Builtin.lenOf x).run P w' = .ok m w'
  cells : ∀ w' : World, (∀ k, k < w.heap.size → w'.heap[k]? = w.heap[k]?) → (Builtin.firstCells size m x).run P w' = .ok news.toArray w'
  one : ∀ u ∈ news, u.oneCell' = true
  reads : ∀ i, i < m → ∀ j, j < size → ∃ u, news[i * size + j]? = some u ∧ RC Q w (g i j) u

theorem src_cells {Q : Nat → Prop} {size m cap b off : Nat} {g : Nat → Nat → Cell} (hpos : 0 < size)
    (h : ∀ i, i < m → ∀ j, j < size → ∃ u, w.cell? ⟨b, off + i * size + j, none⟩ = some u ∧ RC Q w (g i j) u) : ∃ news, Src P Q w size m g (.slice (some ⟨b, off, none⟩) m cap) news := by
  let f : Nat → Value := fun k => (w.cell? ⟨b, off + k, none⟩).getD Go.undef
  have hget : ∀ k, k < m * size → ∃ u, w.cell? ⟨b, off + k, none⟩ = some u ∧ RC Q w (g (k / size) (k % size)) u := fun k hk => by
    have hd : k / size < m := Nat.div_lt_of_lt_mul (by rw [Nat.mul_comm]; exact hk)
    obtain ⟨u, hu, hr⟩ := h (k / size) hd (k % size) (Nat.mod_lt _ hpos)
    refine ⟨u, ?_, hr⟩
    rw [Nat.add_assoc, Nat.div_add_mod' k size] at hu
    exact hu
  have hf : ∀ k, k < m * size → w.cell? ⟨b, off + k, none⟩ = some (f k) := fun k hk => by
    obtain ⟨u, hu, _⟩ := hget k hk
    show _ = some ((w.cell? ⟨b, off + k, none⟩).getD Go.undef)
    rw [hu]; rfl
  refine ⟨(List.range (m * size)).map f, by simp, fun w' => by simp [Builtin.lenOf], fun w' hw' => ?_, fun u hu => ?_, fun i hi j hj => ?_⟩
  · refine run_firstCells_some w' size m ⟨b, off, none⟩ m cap _ (by simp) (fun k v hv => ?_)
    have hk : k < m * size := by
      have := (List.getElem?_eq_some_iff.1 hv).1
      simpa using this
    have hfk : v = f k := by simp [hk] at hv; exact hv.symm
    rw [hfk, addr_add]
    have hc := hf k hk
    rw [World.cell?_of_block (w := w) (w' := w') (a := ⟨b, off + k, none⟩) (hw' b (World.block_lt_of_cell? _ _ hc))]
    exact hc
  · obtain ⟨k, hk, rfl⟩ := List.mem_map.1 hu
    obtain ⟨u', hu', hr⟩ := hget k (by simpa using hk)
    have := hf k (by simpa using hk)
    rw [hu'] at this
    rw [← Option.some.inj this]
    exact RC_one hr
  · have hk := idx_lt hi hj
    obtain ⟨u, hu, hr⟩ := h i hi j hj
    refine ⟨u, ?_, hr⟩
    have := hf _ hk
    rw [← Nat.add_assoc, hu] at this
    simp [hk, ← Option.some.inj this]

theorem src_nil {Q : Nat → Prop} {size cap : Nat} {g : Nat → Nat → Cell} {p : Option Addr} : Src P Q w size 0 g (.slice p 0 cap) [] := by
  refine ⟨by simp, fun w' => by simp [Builtin.lenOf], fun w' _ => ?_, fun u hu => absurd hu (by simp), fun i hi => absurd hi (by omega)⟩
  cases p with
  | none => simp [Builtin.firstCells]
  | some a => simp [Builtin.firstCells, loadCells, loadCellsFrom]

theorem srcV_run {α : Type} {size : Nat} {v : AV} {K : Nat → (Nat → Nat → Cell) → M α} {L : α → Prop} (hpos : 0 < size) (h : (srcV hp gc size v K).run L) :
    ∃ m g, (K m g).run L ∧ ∀ {O W N fr a w be}, Rel O W N ⟨fr, hp, gc⟩ a w be → ∀ x, RA be gc (own O be ⟨fr, hp, gc⟩) w v x → ∃ news, Src P (own O be ⟨fr, hp, gc⟩) w size m g x news := by
  unfold srcV at h
  split at h
  · exact ⟨0, _, h, fun {_ _ _ _ _ _ _} _ x hx => by rw [show x = .slice none 0 0 from hx]; exact ⟨[], src_nil⟩⟩
  · rename_i sz n f
    rw [M.run_iff'] at h
    obtain ⟨hz, h⟩ := h
    obtain rfl := beqN hz
    refine ⟨n, f, h, fun {_ _ _ _ _ _ _} _ x hx => ?_⟩
    rcases hx with ⟨rfl, p, rfl⟩ | ⟨b, off, cap, rfl, _, _, hcells⟩
    · exact ⟨[], src_nil⟩
    · exact src_cells hpos fun i hi j hj => (hcells i hi j hj).2
  · rename_i s q sz off len
    replace h := getE_run h
    obtain ⟨rfl, e, hse, h⟩ := h
    rw [M.run_iff', M.run_need] at h
    simp only [Bool.and_eq_true] at h
    obtain ⟨⟨hz1, hz2⟩, hle, h⟩ := h
    have hz1 := beqN hz1
    obtain rfl := beqN hz2
    have key : ∀ (g : Nat → Nat → Cell) {O W N fr a w be}, Rel O W N ⟨fr, hp, gc⟩ a w be → (∀ i, i < len → ∀ j, j < sz → ∀ u, RA be gc (own O be ⟨fr, hp, gc⟩) w (e.c.at (off + i) j) u → RC (own O be ⟨fr, hp, gc⟩) w (g i j) u) →
        ∀ x, RA be gc (own O be ⟨fr, hp, gc⟩) w (.os s (gc s) sz off len) x → ∃ news, Src P (own O be ⟨fr, hp, gc⟩) w sz len g x news := by
      intro g O W N fr a w be r hg x hx
      rcases hx.2 with ⟨_, _, rfl, rfl⟩ | ⟨b, oo, cap, cs, el, fz, hb, rfl, hc1, hc2, hc3, hh, hc4⟩
      · exact ⟨[], src_nil⟩
      · refine src_cells hpos fun i hi j hj => ?_
        obtain ⟨u, hu, _, hr⟩ := ent_at r.ent hse hb (row := off + i) (col := j) (by omega) (by omega)
        refine ⟨u, ?_, hg i hi j hj u hr⟩
        rw [hc3 (by omega), ← Nat.add_mul, ← hz1]
        exact hu
    split at h
    · rename_i c hc
      exact ⟨len, _, h, fun {_ _ _ _ _ _ _} r x hx => key _ r (fun i hi j hj u hu => by rw [hc] at hu; exact hu) x hx⟩
    · rename_i c hc
      exact ⟨len, _, h.r, fun {_ _ _ _ _ _ _} r x hx => key _ r (fun i hi j hj u hu => by rw [hc] at hu; exact isDat_RC (h.l i hi j hj) hu) x hx⟩
    · exact h.elim
  · exact h.elim

/-! the model's append -/

section
variable {t ty e : TypeId} {i : TypeInfo} {z : Value} (ht : P.underlying t = some (.slice e)) (hi : P.info? e = some i)
include ht hi

theorem run_app_room {base : Option Addr} {sLen sCap m : Nat} {x : Value} {news : List Value} {w' : World} (hlen : ∀ w', (Builtin.lenOf x).run P w' = .ok m w') (hf : (Builtin.firstCells i.size m x).run P w = .ok news.toArray w) (hroom : sLen + m ≤ sCap)
    (hst : ∀ b, base = some b → (storeCells (b.add (sLen * i.size)) news).run P w = .ok () w') (hno : base = none → w' = w) :
    (Builtin.append_ #[t, t] ty #[.slice base sLen sCap, x]).run P w = .ok (.slice base (sLen + m) sCap) w' := by
  cases base with
  | none =>
    rw [hno rfl]
    simp [Builtin.append_, run_underlying ht, Go.sizeOf, typeInfo, hi, hlen, hroom, hf]
  | some b => simp [Builtin.append_, run_underlying ht, Go.sizeOf, typeInfo, hi, hlen, hroom, hf, hst b rfl]

theorem run_app_grow (hz : i.zero = some z) {base : Option Addr} {sLen sCap m : Nat} {x : Value} {olds news : List Value} (hlen : ∀ w', (Builtin.lenOf x).run P w' = .ok m w')
    (hfo : (Builtin.firstCells i.size sLen (.slice base sLen sCap)).run P w.drew = .ok olds.toArray w.drew) (hf : (Builtin.firstCells i.size m x).run P w.drew = .ok news.toArray w.drew)
    (hg : sCap < sLen + m) (h63 : sLen + m ≤ 9223372036854775807) (hfit : Builtin.nextslicecap (sLen + m) sCap * i.bytes ≤ 281474976710656) :
    (Builtin.append_ #[t, t] ty #[.slice base sLen sCap, x]).run P w =
      .ok (.slice (some ⟨w.heap.size, 0, none⟩) (sLen + m) (grownCap w (sLen + m) sCap e))
        (w.drew.alloc (.cells (olds.toArray ++ news.toArray ++ Builtin.zeroCells z.cells (grownCap w (sLen + m) sCap e - (sLen + m))) e)) := by
  have hroom : ¬ (sLen + m ≤ sCap) := by omega
  have h63' : ¬ (9223372036854775807 < ((sLen : Int) + (m : Int))) := by omega
  have h48' : ¬ (281474976710656 < Builtin.nextslicecap (sLen + m) sCap * i.bytes) := by omega
  simp [Builtin.append_, run_underlying ht, Go.sizeOf, typeInfo, zeroValue, hi, hz, hlen, hroom, h63', h48', Question.forced, hf, hfo, newRow, grownCap]
  congr 2
  apply Array.ext'
  simp [List.append_assoc]

end

theorem zeroCells_one {z : Array Value} (hz : ∀ (j : Nat) (u : Value), z[j]? = some u → u.oneCell' = true) (n : Nat) : ∀ (k : Nat) (u : Value), (Builtin.zeroCells z n)[k]? = some u → u.oneCell' = true := by
  intro k u hu
  unfold Builtin.zeroCells at hu
  rw [Array.getElem?_map] at hu
  have hk : k < n * z.size := by
    rcases Nat.lt_or_ge k (n * z.size) with h' | h'
    · exact h'
    · rw [Array.getElem?_eq_none (by simpa using h')] at hu; exact absurd hu (by simp)
  rw [Array.getElem?_eq_getElem (by simpa using hk)] at hu
  simp only [Array.getElem_range, Option.map_some, Option.some.injEq] at hu
  subst hu
  have hp : 0 < z.size := by
    rcases Nat.eq_zero_or_pos z.size with h0 | h0
    · rw [h0] at hk; omega
    · exact h0
  have hm : k % z.size < z.size := Nat.mod_lt _ hp
  rw [getElem!_pos z (k % z.size) hm]
  exact hz (k % z.size) _ (Array.getElem?_eq_getElem hm)

/-- The row behind an append that made a new block. -/
theorem row_grown {Q : Nat → Prop} {size len m : Nat} {c : EC} {g : Nat → Nat → Cell} {olds news : List Value} {zs : Array Value} {e' : EC} (ho : olds.length = len * size) (hn : news.length = m * size)
    (ho1 : ∀ u ∈ olds, u.oneCell' = true) (hn1 : ∀ u ∈ news, u.oneCell' = true) (hz1 : ∀ (k : Nat) (u : Value), zs[k]? = some u → u.oneCell' = true)
    (hor : ∀ i, i < len → ∀ j, j < size → ∃ u, olds[i * size + j]? = some u ∧ RA be gc Q w (c.at i j) u)
    (hnr : ∀ i, i < m → ∀ j, j < size → ∃ u, news[i * size + j]? = some u ∧ RC Q w (g i j) u)
    (he : ∀ i j, e'.at i j = if len ≤ i then .c (g (i - len) j) else c.at i j) : Row be gc Q w ⟨size, len + m, e', false, true⟩ (olds.toArray ++ news.toArray ++ zs) (0, 0) := by
  refine ⟨?_, fun k _ h => by omega, fun _ => rfl, fun k u hu => ?_, fun i hi j hj => ?_⟩
  · simp only [Array.size_append, List.size_toArray, ho, hn, Nat.add_mul]; omega
  · rw [Array.getElem?_append] at hu
    split at hu
    · rw [Array.getElem?_append] at hu
      split at hu
      · exact ho1 u (List.mem_of_getElem? (by simpa using hu))
      · exact hn1 u (List.mem_of_getElem? (by simpa using hu))
    · exact hz1 _ u hu
  · simp only at hi hj ⊢
    rw [he i j]
    have hk := idx_lt hi hj
    rw [Nat.add_mul] at hk
    rw [Array.getElem?_append_left (by simp only [Array.size_append, List.size_toArray, ho, hn]; exact hk)]
    by_cases hil : len ≤ i
    · have hk2 : len * size ≤ i * size := Nat.mul_le_mul_right _ hil
      obtain ⟨u, hu, hr⟩ := hnr (i - len) (by omega) j hj
      refine ⟨u, ?_, by rw [if_pos hil]; exact hr⟩
      rw [Array.getElem?_append_right (by simp only [List.size_toArray, ho]; omega)]
      simp only [List.size_toArray, ho, List.getElem?_toArray]
      rw [show i * size + j - len * size = (i - len) * size + j by rw [Nat.sub_mul]; omega]
      exact hu
    · have hk2 := idx_lt (size := size) (show i < len by omega) hj
      obtain ⟨u, hu, hr⟩ := hor i (by omega) j hj
      refine ⟨u, ?_, by rw [if_neg hil]; exact hr⟩
      rw [Array.getElem?_append_left (by simp only [List.size_toArray, ho]; exact hk2)]
      simpa using hu

/-- A site's block is named anew. -/
theorem Rel.renew (h : Rel O W N ⟨fr, hp, gc⟩ a w be) {s : Nat} {e : Ent} (hs : hp s = some e) :
    ∃ be', Rel O W N ⟨fr, hp, bump gc s⟩ a w be' ∧ be' s (gc s + 1) = be s (gc s) := by
  let be' : Nm := fun s' q => if s' = s ∧ q = gc s + 1 then be s (gc s) else be s' q
  have hold : ∀ s' q, q ≤ gc s' → be' s' q = be s' q := fun s' q hq => by
    simp only [be']; rw [if_neg]; rintro ⟨rfl, rfl⟩; omega
  have hnew : be' s (gc s + 1) = be s (gc s) := by simp [be']
  have hcur : ∀ s', be' s' (bump gc s s') = be s' (gc s') := fun s' => by
    by_cases hss : s' = s
    · subst hss; rw [bump_same]; exact hnew
    · rw [bump_ne _ hss]; exact hold _ _ (Nat.le_refl _)
  have hown : ∀ b, own O be' ⟨fr, hp, bump gc s⟩ b → own O be ⟨fr, hp, gc⟩ b := fun b hb => by
    rcases hb with hb | ⟨s', e', h1, h2, h3⟩
    · exact .inl hb
    · exact .inr ⟨s', e', h1, h2, by simp only [hcur] at h3; exact h3⟩
  have k : Keeps be gc (own O be ⟨fr, hp, gc⟩) w be' (bump gc s) (own O be' ⟨fr, hp, bump gc s⟩) w := by
    refine ⟨fun s' => ?_, fun s' q hq => hold s' q hq, fun b _ ho => hown b ho, fun _ _ _ _ h => h, fun _ cs el fz h => ⟨cs, el, fz, h, rfl⟩⟩
    by_cases hss : s' = s
    · subst hss; rw [bump_same]; omega
    · rw [bump_ne _ hss]; exact Nat.le_refl _
  refine ⟨be', ⟨h.size, h.defers, h.below, h.outer, fun s' q b hb => ?_, h.slots k, fun s' e' he' => ?_, fun s1 s2 e1 e2 b h1 h2 h3 h4 h5 => ?_⟩, hnew⟩
  · simp only [be'] at hb
    split at hb
    · exact h.names _ _ _ hb
    · exact h.names _ _ _ hb
  · have := h.ent s' e' he'
    unfold EntOk at this ⊢
    simp only [hcur]
    rcases this with h' | ⟨b, cs, el, fz, h1, h2, h3, h4⟩
    · exact .inl h'
    · exact .inr ⟨b, cs, el, fz, h1, h2, h3, h4.keep k⟩
  · simp only [hcur] at h3 h4
    exact h.dist s1 s2 e1 e2 b h1 h2 h3 h4 h5

def cApp (P : Program) (op : Op) (size bytes : Nat) (x y : Opd) : Bool :=
  match op with
  | .call c => (match c.callee with
    | .builtin .append => true
    | _ => false) && (match c.args.toList with
    | [x', y'] => chkX x' x && chkX y' y
    | _ => false) && (match c.argTypes.toList with
    | [t, t'] => Nat.beq t t' && (match slE P t with
      | some e => (match P.info? e with
        | some i => Nat.beq i.size size && Nat.beq i.bytes bytes && (match i.zero with
          | some z => z.cells.toList.all (·.oneCell') && Nat.beq z.cells.size size
          | none => false)
        | none => false)
      | none => false)
    | _ => false) && Nat.ble 1 size
  | _ => false

theorem toList_two {α : Type} {xs : Array α} {x y : α} (h : xs.toList = [x, y]) : xs = #[x, y] := by
  cases xs; simp only at h; rw [h]

theorem cApp_run {size bytes : Nat} {x y : Opd} (hc : cApp P o.op size bytes x y = true) : ∃ x' y' t e i z, chkX x' x = true ∧ chkX y' y = true ∧ P.underlying t = some (.slice e) ∧ P.info? e = some i ∧ i.size = size ∧ i.bytes = bytes ∧ i.zero = some z ∧ 0 < size ∧ z.cells.size = size ∧
    (∀ (j : Nat) (u : Value), z.cells[j]? = some u → u.oneCell' = true) ∧ ∀ (a : Act) (w : World) u w', (∀ ty, (Builtin.append_ #[t, t] ty #[a.eval x', a.eval y']).run P w = .ok u w') → (execOp a.eval o).run P w = .ok (.value u) w' := by
  unfold cApp at hc
  split at hc
  case h_2 => exact absurd hc (by decide)
  rename_i c ho
  simp only [Bool.and_eq_true] at hc
  obtain ⟨⟨⟨hcal, harg⟩, hty⟩, hpos⟩ := hc
  split at hcal
  case h_2 => exact absurd hcal (by decide)
  rename_i hcal'
  split at harg
  case h_2 => exact absurd harg (by decide)
  rename_i x' y' hx'
  simp only [Bool.and_eq_true] at harg
  split at hty
  case h_2 => exact absurd hty (by decide)
  rename_i t t' ht
  simp only [Bool.and_eq_true] at hty
  obtain ⟨htt, hty⟩ := hty
  obtain rfl := beqN htt
  split at hty
  case h_2 => exact absurd hty (by decide)
  rename_i e he
  split at hty
  case h_2 => exact absurd hty (by decide)
  rename_i i hi
  simp only [Bool.and_eq_true] at hty
  obtain ⟨⟨h1, h2⟩, h3⟩ := hty
  split at h3
  case h_2 => exact absurd h3 (by decide)
  rename_i z hz
  simp only [Bool.and_eq_true, List.all_eq_true] at h3
  refine ⟨x', y', t, e, i, z, harg.1, harg.2, slE_eq he, hi, beqN h1, beqN h2, hz, Nat.le_of_ble_eq_true hpos, beqN h3.2, fun j u hu => h3.1 u ?_, fun a w u w' hrun => ?_⟩
  · exact List.mem_of_getElem? (by simpa using hu)
  · simp [execOp, ho, resolve, hcal', toList_two hx', toList_two ht, invoke, builtin, hrun]

theorem appC_at {α : Type} (c : Nat → Nat → α) (len : Nat) (g : Nat → Nat → α) (i j : Nat) : appC c len g i j = if len ≤ i then g (i - len) j else c i j := by
  unfold appC
  by_cases h : len ≤ i
  · rw [if_pos h, Nat.ble_eq_true_of_le h]; rfl
  · rw [if_neg h]
    have : Nat.ble len i = false := by
      cases hb : Nat.ble len i with
      | false => rfl
      | true => exact absurd (Nat.le_of_ble_eq_true hb) h
    rw [this]; rfl

theorem e_app (h : Rel O W N ⟨fr, hp, gc⟩ a w be) {size bytes : Nat} {x y : Opd} (hc : cApp P o.op size bytes x y = true) (hl : (eff (.app size bytes x y) d True ⟨fr, hp, gc⟩).run L) :
    ∃ δ, L δ ∧ Ef P O W N fr hp gc a o w δ := by
  obtain ⟨x', y', t, e, i, z, hx, hy, ht, hi, hsz, hby, hz, hpos, hzs, hz1, run⟩ := cApp_run hc
  simp only [eff, M.run_bind] at hl
  replace hl := rd_sound h.slot hx hl
  obtain ⟨v, hl, hv⟩ := hl
  replace hv := hv trivial
  replace hl := rd_sound h.slot hy hl
  obtain ⟨u, hl, hu⟩ := hl
  replace hu := hu trivial
  replace hl := srcV_run (P := P) hpos hl
  obtain ⟨m, g, hl, src⟩ := hl
  obtain ⟨news, hsrc⟩ := src h (a.eval y') hu
  subst hsz hby
  -- from nothing
  have fresh : ∀ (s : Nat), a.eval x' = .slice none 0 0 → m * i.bytes ≤ 140737488355328 → m ≤ 140737488355328 → ∀ e', (∀ k j, e'.at k j = .c (g k j)) → Ef P O W N fr hp gc a o w (.sli ⟨fr, hp, gc⟩ s i.size m e' true) := by
    intro s e1 hb1 hb2 e' he'
    by_cases hm : m = 0
    · subst hm
      have hn : news = [] := List.eq_nil_of_length_eq_zero (by simpa using hsrc.len)
      have hrun := run _ w _ w (fun ty => by rw [e1]; exact run_app_room ht hi (ty := ty) (sCap := 0) hsrc.lenOf (hsrc.cells w fun _ _ => rfl) (Nat.le_refl _) (fun b hb => absurd hb (by simp)) fun _ => rfl)
      have hn' : News w w [(s, ⟨i.size, 0, e', false, true⟩)] (fun _ => none) := ⟨by simp [sitesOf], Below.refl _ _, fun _ _ _ hb => absurd hb (by simp), fun _ _ _ _ _ hb => absurd hb (by simp)⟩
      refine ⟨w, _, _, hrun, h.news hn' fun s' e'' he'' => ?_, ?_⟩
      · replace he'' : (s', e'') ∈ [(s, (⟨i.size, 0, e', false, true⟩ : Ent))] := he''
        simp only [List.mem_singleton, Prod.mk.injEq] at he''
        obtain ⟨rfl, rfl⟩ := he''
        exact .inl ⟨rfl, rfl⟩
      · have hm : s ∈ sitesOf [(s, (⟨i.size, 0, e', false, true⟩ : Ent))] := by simp [sitesOf]
        refine ⟨?_, .inl ⟨nmU_new hm, rfl, rfl, rfl⟩⟩
        show gc s + 1 ≤ bump gc s s
        rw [bump_same]; exact Nat.le_refl _
    · have hrun := run _ w _ _ (fun ty => by rw [e1]; exact run_app_grow ht hi (ty := ty) hz (sLen := 0) (sCap := 0) (olds := []) hsrc.lenOf (by simp [Builtin.firstCells]) (hsrc.cells w.drew fun _ _ => rfl) (by omega) (by omega) (by rw [Nat.zero_add]; exact growslice_fits (by omega) hb1))
      simp only [Nat.zero_add] at hrun
      have hcap := grownCap_ge w m 0 e
      have hcapM := grownCap_le_maxLen w m 0 e (by unfold maxLen; omega)
      have row := row_grown (be := be) (gc := gc) (w := w) (Q := own O be ⟨fr, hp, gc⟩) (size := i.size) (len := 0) (c := e') (e' := e') (g := g) (olds := []) (zs := Builtin.zeroCells z.cells (grownCap w m 0 e - m)) (by simp) hsrc.len (by simp) hsrc.one (zeroCells_one hz1 _) (fun k hk => absurd hk (by omega)) hsrc.reads
        (fun k j => by rw [if_pos (Nat.zero_le _), he']; rfl)
      rw [Nat.zero_add] at row
      have hnew := heap_alloc_new w.drew (.cells (([] : List Value).toArray ++ news.toArray ++ Builtin.zeroCells z.cells (grownCap w m 0 e - m)) e)
      exact ef_row h (below_drew_alloc w _) hnew row hrun fun be' hb' => ra_os_new (by rw [bump_same]; exact Nat.le_refl _) hb' hnew hcap (by unfold maxLen at hcapM; omega) (by
        simp only [Array.size_append, List.size_toArray, List.length_nil, hsrc.len, size_zeroCells, hzs, Nat.zero_add, ← Nat.add_mul]
        exact Nat.mul_le_mul_right _ (by omega))
  split at hl
  · exact ⟨_, hl.r, fresh d hv hl.l.1 hl.l.2 _ fun k j => rfl⟩
  · rename_i s q sz off len
    replace hl := getE_run hl
    obtain ⟨rfl, en, hse, hl⟩ := hl
    rw [M.run_iff'] at hl
    simp only [Bool.and_eq_true] at hl
    obtain ⟨⟨⟨hz1', hz2⟩, hap⟩, hl⟩ := hl
    have hens := beqN hz1'
    obtain rfl := beqN hz2
    unfold isUn at hl
    cases hfz : en.fz with
    | true => rw [hfz] at hl; exact absurd hl id
    | false =>
      rw [hfz] at hl
      simp only [cond_false] at hl
      obtain ⟨rfl, hlen⟩ := hl.l
      obtain ⟨hb1, hb2⟩ := hl.r.l
      replace hl := hl.r.r
      -- whatever stands there
      have main : ∀ e', (∀ c, en.c ≠ .var c) → (∀ k j, e'.at k j = if len ≤ k then .c (g (k - len) j) else en.c.at k j) → Ef P O W N fr hp gc a o w (.sli ⟨fr, hp, gc⟩ s i.size (len + m) e' true) := by
        intro e' _ he'
        rcases hv.2 with ⟨hb, _, rfl, e1⟩ | ⟨b, oo, cap, cs, el, fz, hb, e1, hc1, hc2, hc3, hh, hc4⟩
        · rw [Nat.zero_add] at *
          exact fresh s e1 hb1 hb2 e' fun k j => by rw [he', if_pos (Nat.zero_le _)]; rfl
        · have hent : ∃ fz', Row be gc (own O be ⟨fr, hp, gc⟩) w en cs fz' ∧ w.heap[b]? = some (.cells cs el fz') ∧ W.heap.size ≤ b := by
            rcases h.ent s en hse with ⟨h0, _⟩ | ⟨b', cs', el', fz', h1, h2, h3, h4⟩
            · rw [show be s (gc s) = some b from hb] at h0; exact absurd h0 (by simp)
            · rw [show be s (gc s) = some b from hb] at h1
              obtain rfl := Option.some.inj h1
              rw [hh] at h3
              obtain ⟨rfl, rfl, rfl⟩ : cs = cs' ∧ el = el' ∧ fz = fz' := by simpa using h3
              exact ⟨fz, h4, hh, h2⟩
          obtain ⟨fz', hrow, hh, hBb⟩ := hent
          have hoo : 0 < cap → oo = 0 := fun h0 => by have := hc3 h0; omega
          by_cases hroom : len + m ≤ cap
          · -- in place
            by_cases hm : m = 0
            · subst hm
              have hn : news = [] := List.eq_nil_of_length_eq_zero (by simpa using hsrc.len)
              have hrun := run _ w _ w (fun ty => by rw [e1]; exact run_app_room ht hi (ty := ty) hsrc.lenOf (hsrc.cells w fun _ _ => rfl) hroom (fun b' hb' => by rw [hn]; rfl) fun h => absurd h (by simp))
              have hrow' : Row be gc (own O be ⟨fr, hp, gc⟩) w ⟨i.size, len + 0, e', false, true⟩ cs fz' := by
                refine ⟨by simp only [Nat.add_zero]; rw [← hlen, ← hens]; exact hrow.fit, hrow.clean, fun _ => hrow.plain hap, hrow.one, fun k hk j hj => ?_⟩
                replace hk : k < len := hk
                replace hj : j < i.size := hj
                obtain ⟨u, hu, hr⟩ := hrow.cont k (by omega) j (by omega)
                rw [he', if_neg (by omega)]
                exact ⟨u, by rw [← hens]; exact hu, hr⟩
              have hw2 := h.write (w' := w) hse hfz hb (e' := ⟨i.size, len + 0, e', false, true⟩) (fun _ _ => rfl) rfl rfl rfl rfl hh hh rfl rfl hrow'
              obtain ⟨be', hrel, hbe⟩ := hw2.renew (s := s) (setH_same ..)
              refine ⟨w, _, be', hrun, hrel, ?_, .inr ⟨b, oo, cap, cs, el, fz', ?_, rfl, hroom, hc2, fun h0 => by rw [hoo h0]; omega, hh, hc4⟩⟩
              · show gc s + 1 ≤ bump gc s s
                rw [bump_same]; exact Nat.le_refl _
              · exact hbe.trans hb
            · have hcap0 : 0 < cap := by omega
              obtain rfl := hoo hcap0
              have hfit : len * i.size + news.length ≤ cs.size := by
                rw [hsrc.len, ← Nat.add_mul]
                exact Nat.le_trans (Nat.mul_le_mul_right _ hroom) (by omega)
              obtain ⟨w', cs', hst, hh', hs', hm', ho', q1, q2, q3, q4⟩ := run_storeCells_list (P := P) (b := b) (o := len * i.size) news 0 cs w hh (by omega) hrow.clean hsrc.one
              have hrun := run _ w _ w' (fun ty => by
                rw [e1]
                exact run_app_room ht hi (ty := ty) hsrc.lenOf (hsrc.cells w fun _ _ => rfl) hroom (fun b' hb' => by
                  obtain rfl := Option.some.inj hb'
                  rw [addr_add, Nat.zero_add]; exact hst) fun h => absurd h (by simp))
              simp only [Nat.add_zero] at hm'
              have hrow' : Row be gc (own O be ⟨fr, hp, gc⟩) w ⟨i.size, len + m, e', false, true⟩ cs' fz' := by
                refine ⟨by simp only; rw [hs', Nat.add_mul, ← hsrc.len]; exact hfit, by rw [hs']; exact hrow.clean, fun _ => hrow.plain hap, fun k u hu => ?_, fun k hk j hj => ?_⟩
                · rw [hm' k] at hu
                  split at hu
                  · exact hsrc.one u (List.mem_of_getElem? hu)
                  · exact hrow.one k u hu
                · simp only at hk hj ⊢
                  rw [he']
                  have hk' := idx_lt hk hj
                  rw [Nat.add_mul, ← hsrc.len] at hk'
                  by_cases hkl : len ≤ k
                  · have hk2 : len * i.size ≤ k * i.size := Nat.mul_le_mul_right _ hkl
                    obtain ⟨u, hu, hr⟩ := hsrc.reads (k - len) (by omega) j hj
                    refine ⟨u, ?_, by rw [if_pos hkl]; exact hr⟩
                    rw [hm', if_pos ⟨by omega, hk'⟩, show k * i.size + j - len * i.size = (k - len) * i.size + j by rw [Nat.sub_mul]; omega]
                    exact hu
                  · have hk2 := idx_lt (size := i.size) (show k < len by omega) hj
                    obtain ⟨u, hu, hr⟩ := hrow.cont k (by omega) j (by omega)
                    refine ⟨u, ?_, by rw [if_neg hkl]; exact hr⟩
                    rw [hm', if_neg (by omega), ← hens]
                    exact hu
              have hw2 := h.write (w' := w') hse hfz hb (e' := ⟨i.size, len + m, e', false, true⟩) ho' q1 q2 q3 q4 hh hh' hs' rfl hrow'
              obtain ⟨be', hrel, hbe⟩ := hw2.renew (s := s) (setH_same ..)
              refine ⟨w', _, be', hrun, hrel, ?_, .inr ⟨b, 0, cap, cs', el, fz', ?_, rfl, hroom, hc2, fun h0 => by omega, hh', by rw [hs']; exact hc4⟩⟩
              · show gc s + 1 ≤ bump gc s s
                rw [bump_same]; exact Nat.le_refl _
              · exact hbe.trans hb
          · -- a new block
            have hb1' : (len + m) * i.bytes ≤ 140737488355328 := hb1
            obtain ⟨olds, holds, holds1, hfo, hor⟩ : ∃ olds : List Value, olds.length = len * i.size ∧ (∀ u ∈ olds, u.oneCell' = true) ∧ (Builtin.firstCells i.size len (.slice (some ⟨b, oo, none⟩) len cap)).run P w.drew = .ok olds.toArray w.drew ∧
                ∀ k, k < len → ∀ j, j < i.size → ∃ u, olds[k * i.size + j]? = some u ∧ RA be gc (own O be ⟨fr, hp, gc⟩) w (en.c.at k j) u := by
              refine ⟨(cs.toList.drop oo).take (len * i.size), ?_, fun u hu => ?_, ?_, fun k hk j hj => ?_⟩
              · have : len * i.size ≤ cap * i.size := Nat.mul_le_mul_right _ hc1
                simp; omega
              · obtain ⟨k, hk⟩ := List.getElem?_of_mem (List.mem_of_mem_drop (List.mem_of_mem_take hu))
                exact hrow.one k u (by simpa using hk)
              · have hlen' : ((cs.toList.drop oo).take (len * i.size)).length = len * i.size := by
                  have : len * i.size ≤ cap * i.size := Nat.mul_le_mul_right _ hc1
                  simp; omega
                refine run_firstCells_some w.drew i.size len ⟨b, oo, none⟩ len cap _ hlen' (fun k v hv => ?_)
                rw [List.getElem?_take] at hv
                split at hv
                · rw [addr_add, World.cell?_drew]
                  simp only [World.cell?, hh, Option.isSome_none, Bool.false_eq_true, if_false]
                  simpa using hv
                · exact absurd hv (by simp)
              · have hcap0 : 0 < cap := by omega
                obtain rfl := hoo hcap0
                obtain ⟨u, hu, hr⟩ := hrow.cont k (by omega) j (by omega)
                refine ⟨u, ?_, hr⟩
                have hk' := idx_lt hk hj
                rw [List.getElem?_take, if_pos hk', List.drop_zero, ← hens]
                simpa using hu
            have hrun := run _ w _ _ (fun ty => by rw [e1]; exact run_app_grow ht hi (ty := ty) hz hsrc.lenOf hfo (hsrc.cells w.drew fun _ _ => rfl) (by omega) (by omega) (growslice_fits (by omega) hb1'))
            have hcap := grownCap_ge w (len + m) cap e
            have hcapM := grownCap_le_maxLen w (len + m) cap e (by unfold maxLen; omega)
            have row := row_grown (be := be) (gc := gc) (w := w) (Q := own O be ⟨fr, hp, gc⟩) (e' := e') (c := en.c) (zs := Builtin.zeroCells z.cells (grownCap w (len + m) cap e - (len + m))) holds hsrc.len holds1 hsrc.one (zeroCells_one hz1 _) hor hsrc.reads he'
            have hnew := heap_alloc_new w.drew (.cells (olds.toArray ++ news.toArray ++ Builtin.zeroCells z.cells (grownCap w (len + m) cap e - (len + m))) e)
            exact ef_row h (below_drew_alloc w _) hnew row hrun fun be' hb' => ra_os_new (by rw [bump_same]; exact Nat.le_refl _) hb' hnew hcap (by unfold maxLen at hcapM; omega) (by
              simp only [Array.size_append, List.size_toArray, holds, hsrc.len, size_zeroCells, hzs, ← Nat.add_mul]
              exact Nat.mul_le_mul_right _ (by omega))
      split at hl
      · rename_i c hcc
        exact ⟨_, hl, main _ (fun c h => by rw [hcc] at h; exact absurd h (by simp)) fun k j => by rw [hcc]; simp only [EC.at, appC_at]; split <;> rfl⟩
      · rename_i c hcc
        exact ⟨_, hl, main _ (fun c h => by rw [hcc] at h; exact absurd h (by simp)) fun k j => by rw [hcc]; simp only [EC.at, appC_at]⟩
      · exact hl.elim
  · exact hl.elim

end
end Lk
