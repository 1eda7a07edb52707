/-
  The abstract machine, part 13: stores; all operations but calls, in one.
-/
import Derived.Test.YtbfhhfbblnkdhaaLk12
namespace Lk
open Go Go.RowKit
section
variable {P : Program} {O : Nat → Prop} {W : World} {N : Nat} {fr : Nat → AV} {hp : Nat → Option Ent} {gc : Nat → Nat} {a : Act} {w : World} {be : Nm} {o : Oper} {d : Nat} {L : Dl → Prop}

theorem isUn_run {e : Ent} {α : Type} {m : M α} {L : α → Prop} (h : (isUn e m).run L) : e.fz = false ∧ m.run L := by
  unfold isUn at h
  cases hf : e.fz with
  | true => rw [hf] at h; exact absurd h id
  | false => rw [hf] at h; exact ⟨rfl, h⟩

theorem notVar_run {e : Ent} {α : Type} {m : M α} {L : α → Prop} (h : (notVar e m).run L) : (∀ c, e.c ≠ .var c) ∧ m.run L := by
  unfold notVar at h
  split at h
  · exact h.elim
  · rename_i hc; exact ⟨fun c h => by rw [hc] at h; exact absurd h (by simp), h⟩
  · rename_i hc; exact ⟨fun c h => by rw [hc] at h; exact absurd h (by simp), h⟩

def cSt1 (P : Program) (op : Op) (m : Nat) (x v : Opd) : Bool :=
  match op with
  | .store t x' v' => szT P t m && chkX x' x && chkX v' v
  | _ => false

theorem run_store_op {t : TypeId} {x' v' : Operand} (ho : o.op = .store t x' v') {ad : Addr} (h1 : a.eval x' = .pointer (some ad)) {w' : World} (hst : (storeVar t ad (a.eval v')).run P w = .ok () w') :
    (execOp a.eval o).run P w = .ok .skip w' := by
  simp [execOp, ho, h1, Instr.storeAt, Instr.sureAddr, hst]

/-- A store, when what is stored is ready. -/
theorem es_store (h : Rel O W N ⟨fr, hp, gc⟩ a w be) {t : TypeId} {x' v' : Operand} (ho : o.op = .store t x' v') {i : TypeInfo} (hi : P.info? t = some i) {m : Nat} (him : i.size = m) {hs : List (Nat × Ent)} (hf : Fz O W N fr gc a w be hp (putH hs hp))
    {g : Nat → AV} (hv : Reads be gc (own O be ⟨fr, putH hs hp, gc⟩) w m g (a.eval v').cells) {s b row col : Nat} {e : Ent} (hse : putH hs hp s = some e) (hfz : e.fz = false) (hb : be s (gc s) = some b) (hx : a.eval x' = .pointer (some ⟨b, row * e.size + col, none⟩))
    (hrow : row < e.n) (hcol : col + m ≤ e.size) {c' : EC} (hu : EC.isUpd e.c c' row col m g e.n e.size) : Es (be := be) P O W N fr hp gc a o w ⟨.undef, hs ++ [(s, { e with c := c' })], []⟩ := by
  obtain ⟨w', hst, hrel⟩ := (hf.rel h).store (P := P) hi hse hfz hb hrow hcol him hu (v := a.eval v') hv
  refine ⟨rfl, w', run_store_op ho hx hst, ?_⟩
  simp only [putH_append]
  exact hrel

theorem e_st1 (h : Rel O W N ⟨fr, hp, gc⟩ a w be) {keep : Bool} {x v : Opd} (hc : cSt1 P o.op 1 x v = true) (hl : (eff (.st1 keep x v) d True ⟨fr, hp, gc⟩).run L) :
    ∃ δ, L δ ∧ Es (be := be) P O W N fr hp gc a o w δ := by
  unfold cSt1 at hc
  split at hc
  case h_2 => exact absurd hc (by decide)
  rename_i t x' v' ho
  simp only [Bool.and_eq_true] at hc
  obtain ⟨⟨hsz, hx⟩, hv'⟩ := hc
  obtain ⟨i, hi, him⟩ := szT_eq hsz
  simp only [eff, M.run_bind] at hl
  replace hl := rd_sound h.slot hx hl
  obtain ⟨p, hl, hp⟩ := hl
  replace hp := hp trivial
  replace hl := rd_sound h.slot hv' hl
  obtain ⟨u, hl, hu⟩ := hl
  replace hu := hu trivial
  replace hl := stoV_run hl
  obtain ⟨x1, hs, hl, pr⟩ := hl
  obtain ⟨f1, r1⟩ := pr (O := O) (W := W) (N := N) (fr := fr) (a := a) (w := w) (be := be)
  obtain ⟨hr, h1⟩ := r1 h _ hu
  have hrd : Reads be gc (own O be ⟨fr, putH hs _, gc⟩) w 1 (fun _ => x1) (a.eval v').cells := one_reads h1 hr
  split at hl
  · rename_i s q col
    replace hl := getE_run hl
    obtain ⟨rfl, e, hse, hl⟩ := hl
    replace hl := varE_run hl
    obtain ⟨c, hec, hn, hcol, hl⟩ := hl
    replace hl := isUn_run hl
    obtain ⟨hfz, hl⟩ := hl
    obtain ⟨_, b, hb, hpx⟩ := hp
    refine ⟨_, hl, es_store h ho hi him f1 hrd hse hfz hb (row := 0) (col := col) (by rw [hpx]; simp) (by omega) hcol (fun i' hi' j hj => ?_)⟩
    have hat := upd1_at (e := e.c) (row := 0) (col := col) (v := x1) (fun _ _ => rfl) (i := i') (j := j) (fun _ _ => by omega)
    exact ⟨fun hh => by rw [hat, if_pos ⟨hh.1, by omega⟩], fun hh => by rw [hat, if_neg (fun h2 => hh ⟨h2.1, by omega, by omega⟩)]⟩
  · rename_i s q size row col
    replace hl := getE_run hl
    obtain ⟨rfl, e, hse, hl⟩ := hl
    replace hl := rowE_run hl
    obtain ⟨hz, hcol, hn, hl⟩ := hl
    replace hl := notVar_run hl
    obtain ⟨hnv, hl⟩ := hl
    replace hl := isUn_run hl
    obtain ⟨hfz, hl⟩ := hl
    obtain ⟨_, b, hb, hpx⟩ := hp
    subst hz
    have hvar : ∀ c, e.c = .var c → row = 0 ∧ e.n = 1 := fun c hc => absurd hc (hnv c)
    refine ⟨_, hl, es_store h ho hi him f1 hrd hse hfz hb (row := row) (col := col) hpx hn hcol (fun i' hi' j hj => ?_)⟩
    have hat := upd1_at (e := e.c) (row := row) (col := col) (v := x1) (fun c hc => (hvar c hc).1) (i := i') (j := j) (fun c hc => by have := (hvar c hc).2; omega)
    exact ⟨fun hh => by rw [hat, if_pos ⟨hh.1, by omega⟩], fun hh => by rw [hat, if_neg (fun h2 => hh ⟨h2.1, by omega, by omega⟩)]⟩
  · exact hl.elim

theorem stored_reads {m : Nat} {f g : Nat → AV} {Q Q' : Nat → Prop} {u : Value} (hu : RA be gc Q w (.agg m f) u) (hr : ∀ i, i < m → ∀ u, RA be gc Q w (f (0 + i)) u → RA be gc Q' w (g i) u ∧ u.oneCell' = true) : Reads be gc Q' w m g u.cells := by
  obtain ⟨h1, h2⟩ := agg_reads hu
  refine ⟨h1, fun j hj => ?_⟩
  obtain ⟨u', hu', ho, hru⟩ := h2 j hj
  obtain ⟨hr', _⟩ := hr j hj u' (by rw [Nat.zero_add]; exact hru)
  exact ⟨u', hu', ho, hr'⟩

theorem e_stA (h : Rel O W N ⟨fr, hp, gc⟩ a w be) {keep : Bool} {m : Nat} {x v : Opd} (hc : cSt1 P o.op m x v = true) (hl : (eff (.stA keep m x v) d True ⟨fr, hp, gc⟩).run L) :
    ∃ δ, L δ ∧ Es (be := be) P O W N fr hp gc a o w δ := by
  unfold cSt1 at hc
  split at hc
  case h_2 => exact absurd hc (by decide)
  rename_i t x' v' ho
  simp only [Bool.and_eq_true] at hc
  obtain ⟨⟨hsz, hx⟩, hv'⟩ := hc
  obtain ⟨i, hi, him⟩ := szT_eq hsz
  simp only [eff, M.run_bind] at hl
  replace hl := rd_sound h.slot hx hl
  obtain ⟨p, hl, hp⟩ := hl
  replace hp := hp trivial
  replace hl := rd_sound h.slot hv' hl
  obtain ⟨u, hl, hu⟩ := hl
  replace hu := hu trivial
  split at hl
  case h_2 => exact hl.elim
  rename_i n f
  rw [M.run_iff', M.run_bind] at hl
  obtain ⟨hnm, hl⟩ := hl
  obtain rfl := beqN hnm
  replace hl := stoN_run _ _ _ _ _ hl
  obtain ⟨g, hs, hl, pr⟩ := hl
  obtain ⟨f1, r1⟩ := pr (O := O) (W := W) (N := N) (fr := fr) (a := a) (w := w) (be := be)
  have hrd : Reads be gc (own O be ⟨fr, putH hs _, gc⟩) w n g (a.eval v').cells := stored_reads hu (r1 h)
  split at hl
  · rename_i s q col
    replace hl := getE_run hl
    obtain ⟨rfl, e, hse, hl⟩ := hl
    replace hl := varE_run hl
    obtain ⟨c, hec, hn, hcol, hl⟩ := hl
    replace hl := isUn_run hl
    obtain ⟨hfz, hl⟩ := hl
    obtain ⟨_, b, hb, hpx⟩ := hp
    exact ⟨_, hl, es_store h ho hi him f1 hrd hse hfz hb (row := 0) (col := col) (by rw [hpx]; simp) (by omega) hcol (updN_isUpd n e.c 0 col g e.n e.size fun _ _ => ⟨rfl, hn⟩)⟩
  · rename_i s q size row col
    replace hl := getE_run hl
    obtain ⟨rfl, e, hse, hl⟩ := hl
    replace hl := rowE_run hl
    obtain ⟨hz, hcol, hn, hl⟩ := hl
    replace hl := notVar_run hl
    obtain ⟨hnv, hl⟩ := hl
    replace hl := isUn_run hl
    obtain ⟨hfz, hl⟩ := hl
    obtain ⟨_, b, hb, hpx⟩ := hp
    subst hz
    exact ⟨_, hl, es_store h ho hi him f1 hrd hse hfz hb (row := row) (col := col) hpx hn hcol (updN_isUpd n e.c row col g e.n e.size fun c hc => absurd hc (hnv c))⟩
  · exact hl.elim

theorem e_stR (h : Rel O W N ⟨fr, hp, gc⟩ a w be) {m : Nat} {x v : Opd} (hc : cSt1 P o.op m x v = true) (hl : (eff (.stR m x v) d True ⟨fr, hp, gc⟩).run L) :
    ∃ δ, L δ ∧ Es (be := be) P O W N fr hp gc a o w δ := by
  unfold cSt1 at hc
  split at hc
  case h_2 => exact absurd hc (by decide)
  rename_i t x' v' ho
  simp only [Bool.and_eq_true] at hc
  obtain ⟨⟨hsz, hx⟩, hv'⟩ := hc
  obtain ⟨i, hi, him⟩ := szT_eq hsz
  simp only [eff, M.run_bind] at hl
  replace hl := rd_sound h.slot hx hl
  obtain ⟨p, hl, hp⟩ := hl
  replace hp := hp trivial
  replace hl := rd_sound h.slot hv' hl
  obtain ⟨u, hl, hu⟩ := hl
  replace hu := hu trivial
  split at hl
  case h_2 => exact hl.elim
  rename_i n f
  rw [M.run_iff'] at hl
  obtain ⟨hnm, hl⟩ := hl
  obtain rfl := beqN hnm
  split at hl
  case h_2 => exact hl.elim
  rename_i s q size row col
  replace hl := getE_run hl
  obtain ⟨rfl, e, hse, hl⟩ := hl
  rw [M.run_iff'] at hl
  simp only [Bool.and_eq_true] at hl
  obtain ⟨⟨⟨⟨z1, z2⟩, z3⟩, z4⟩, hl⟩ := hl
  obtain rfl := beqN z1
  have z2 := beqN z2
  obtain rfl := beqN z3
  obtain rfl := beqN z4
  replace hl := isUn_run hl
  obtain ⟨hfz, hl⟩ := hl
  have hen := hl.l
  obtain ⟨_, b, hb, hpx⟩ := hp
  obtain ⟨hu1, hu2⟩ := agg_reads hu
  rcases h.ent s e hse with ⟨h0, _⟩ | ⟨b', cs, el, fz, h1, h2, h3, h4⟩
  · rw [show be s (gc s) = some b from hb] at h0; exact absurd h0 (by simp)
  · rw [show be s (gc s) = some b from hb] at h1
    obtain rfl := Option.some.inj h1
    have hlen : (a.eval v').cells.toList.length = n := by simpa using hu1
    have hone : ∀ u ∈ (a.eval v').cells.toList, u.oneCell' = true := fun u hu => by
      obtain ⟨j, hj⟩ := List.getElem?_of_mem hu
      have hjn : j < n := by have := (List.getElem?_eq_some_iff.1 hj).1; omega
      obtain ⟨u', hu', h1, _⟩ := hu2 j hjn
      have : (a.eval v').cells.toList[j]? = some u' := by simpa using hu'
      rw [hj] at this
      rw [Option.some.inj this]; exact h1
    have hfit : n ≤ cs.size := by have := h4.fit; rw [hen, z2] at this; omega
    obtain ⟨w', cs', hst, hh, hcs, hm, ho', e1, e2, e3, e4⟩ := run_storeCells_list (P := P) (b := b) (o := 0) (a.eval v').cells.toList 0 cs w h3 (by omega) h4.clean hone
    have hrow : Row be gc (own O be ⟨fr, hp, gc⟩) w { e with c := .gen fun i _ => f i } cs' fz := by
      refine ⟨by rw [hcs]; exact h4.fit, by rw [hcs]; exact h4.clean, h4.plain, fun k u hk => ?_, fun k hk j hj => ?_⟩
      · rw [hm k] at hk
        split at hk
        · exact hone u (List.mem_of_getElem? hk)
        · exact h4.one k u hk
      · replace hk : k < e.n := hk
        replace hj : j < e.size := hj
        obtain ⟨u, hu, _, hr⟩ := hu2 k (by omega)
        refine ⟨u, ?_, hr⟩
        show cs'[k * e.size + j]? = some u
        rw [z2, show k * 1 + j = k by omega, hm, if_pos ⟨by omega, by omega⟩]
        simpa using hu
    refine ⟨_, hl.r, rfl, w', run_store_op ho hpx ?_, h.write hse hfz hb ho' e1 e2 e3 e4 h3 hh hcs hfz hrow⟩
    unfold storeVar
    simp only [Sem.run_bind, run_sizeOf hi, Result.andThen_ok]
    rw [if_neg (by simp; rw [hu1, him])]
    simpa using hst

/-! all -/

/-- What is checked of an operation that is no call. -/
def chkE (P : Program) (op : Op) : AOp → Bool
  | .val p => chkP P op p
  | .alloc size z => cAlloc P op size z
  | .allocR rows size z => cAllocR P op rows size z
  | .box _ x => cBox op x
  | .boxR _ x => cBox op x
  | .buildS size len z parts => cBuildS P op size len z parts
  | .mk size bytes z n => cMk P op size bytes z n
  | .s2b x => cS2b P op x
  | .app size bytes x y => cApp P op size bytes x y
  | .st1 _ x v => cSt1 P op 1 x v
  | .stA _ m x v => cSt1 P op m x v
  | .stR m x v => cSt1 P op m x v
  | .call .. => false
  | .callv .. => false
  | .halt => true

def isSt : AOp → Bool
  | .st1 .. => true
  | .stA .. => true
  | .stR .. => true
  | _ => false

theorem eff_sound (h : Rel O W N ⟨fr, hp, gc⟩ a w be) {op : AOp} (hc : chkE P o.op op = true) (hl : (eff op d True ⟨fr, hp, gc⟩).run L) :
    ∃ δ, L δ ∧ (isSt op = false ∧ Ef P O W N fr hp gc a o w δ ∨ isSt op = true ∧ Es (be := be) P O W N fr hp gc a o w δ) := by
  cases op with
  | val p =>
    simp only [eff, M.run_bind] at hl
    obtain ⟨v, hL, hv⟩ := pv_sound (P := P) (o := o) h.slot h.ent hc hl
    obtain ⟨u, hrun, hr⟩ := hv trivial
    exact ⟨_, hL, .inl ⟨rfl, w, u, be, hrun, h, hr⟩⟩
  | alloc size z =>
    obtain ⟨δ, h1, h2⟩ := e_alloc (d := d) h hc hl
    exact ⟨δ, h1, .inl ⟨rfl, h2⟩⟩
  | allocR rows size z =>
    obtain ⟨δ, h1, h2⟩ := e_allocR (d := d) h hc hl
    exact ⟨δ, h1, .inl ⟨rfl, h2⟩⟩
  | box size x =>
    obtain ⟨δ, h1, h2⟩ := e_box (d := d) h hc hl
    exact ⟨δ, h1, .inl ⟨rfl, h2⟩⟩
  | boxR n x =>
    obtain ⟨δ, h1, h2⟩ := e_boxR (d := d) h hc hl
    exact ⟨δ, h1, .inl ⟨rfl, h2⟩⟩
  | buildS size len z parts =>
    obtain ⟨δ, h1, h2⟩ := e_buildS (d := d) h hc hl
    exact ⟨δ, h1, .inl ⟨rfl, h2⟩⟩
  | mk size bytes z n =>
    obtain ⟨δ, h1, h2⟩ := e_mk (d := d) h hc hl
    exact ⟨δ, h1, .inl ⟨rfl, h2⟩⟩
  | s2b x =>
    obtain ⟨δ, h1, h2⟩ := e_s2b (d := d) h hc hl
    exact ⟨δ, h1, .inl ⟨rfl, h2⟩⟩
  | app size bytes x y =>
    obtain ⟨δ, h1, h2⟩ := e_app (d := d) h hc hl
    exact ⟨δ, h1, .inl ⟨rfl, h2⟩⟩
  | st1 keep x v =>
    obtain ⟨δ, h1, h2⟩ := e_st1 (d := d) h hc hl
    exact ⟨δ, h1, .inr ⟨rfl, h2⟩⟩
  | stA keep m x v =>
    obtain ⟨δ, h1, h2⟩ := e_stA (d := d) h hc hl
    exact ⟨δ, h1, .inr ⟨rfl, h2⟩⟩
  | stR m x v =>
    obtain ⟨δ, h1, h2⟩ := e_stR (d := d) h hc hl
    exact ⟨δ, h1, .inr ⟨rfl, h2⟩⟩
  | call f args => exact absurd hc (by simp [chkE])
  | callv x args => exact absurd hc (by simp [chkE])
  | halt => exact hl.elim

end
end Lk
