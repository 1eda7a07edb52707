/-
  Chapter 12: what the journal's operations do to what a disk reads, with no program in sight.
-/
import Derived.Test.YtihjalnebgjmgaaW12d
import Derived.Test.YtihjalnebgjmgaaW03j
namespace Lk.S12
open Go Lk Lk.S03

/-- What a place reads behind operations. -/
def rdO (l : List Op) (i : Nat) (s : List UInt8) : List UInt8 := l.foldl (fun s o => if o.sync = false ∧ o.w.at_ = (i : Int) then o.w.data else s) s
/-- Operations of a disk of n sectors. -/
def okO (n : Nat) (l : List Op) : Prop := ∀ o ∈ l, o.sync = false → 0 ≤ o.w.at_ ∧ o.w.at_ < (n : Int) ∧ o.w.data.length = 16

theorem okO.cons {n : Nat} {o : Op} {l : List Op} (h : okO n (o :: l)) : okO n l := fun x hx => h x (List.mem_cons_of_mem _ hx)
theorem okO.app {n : Nat} {l m : List Op} (h : okO n l) (k : okO n m) : okO n (l ++ m) := fun x hx => (List.mem_append.1 hx).elim (h x) (k x)
theorem okO.take {n k : Nat} {l : List Op} (h : okO n l) : okO n (l.take k) := fun x hx => h x (List.mem_of_mem_take hx)

theorem stepR_len {d : Dsk} {o : Op} (h : right d) : (stepR d o).secs.length = d.secs.length := by
  unfold stepR; split
  · exact sync_len h
  · exact put_len
theorem stepR_right {d : Dsk} {o : Op} (h : right d) : right (stepR d o) := by
  unfold stepR; split
  · exact h.sync
  · exact h.put
theorem stepR_cache {d : Dsk} {o : Op} (h : right d) : (stepR d o).cache.length ≤ d.cache.length + 1 := by
  unfold stepR; split
  · rw [sync_cache h]; simp
  · unfold Dsk.put; split
    · simp
    · omega
theorem stepR_read {d : Dsk} {o : Op} {i : Nat} (h : right d) (hi : i < d.secs.length) (hc : d.cache.length < 200) (ho : o.sync = false → 0 ≤ o.w.at_ ∧ o.w.at_ < (d.secs.length : Int) ∧ o.w.data.length = 16) :
    (stepR d o).read i = if o.sync = false ∧ o.w.at_ = (i : Int) then o.w.data else d.read i := by
  unfold stepR
  cases hs : o.sync with
  | true => simp only [if_true]; rw [if_neg (by simp)]; exact read_sync h hi
  | false =>
    rw [if_neg (by simp), read_put h]
    have hf : fits d o.w := ho hs
    have he : d.putE o.w = 0 := by unfold Dsk.putE; rw [if_pos ⟨h, hf⟩]; exact if_pos hc
    by_cases e : o.w.at_ = (i : Int)
    · rw [if_pos ⟨he, e.symm⟩, if_pos ⟨rfl, e⟩]
    · rw [if_neg (fun x => e x.2.symm), if_neg (fun x => e x.2)]

theorem runL_all {l : List Op} : ∀ {d : Dsk}, right d → okO d.secs.length l → d.cache.length + l.length ≤ 200 →
    right (runL d l) ∧ (runL d l).secs.length = d.secs.length ∧ ∀ i, i < d.secs.length → (runL d l).read i = rdO l i (d.read i) := by
  induction l with
  | nil => intro d h _ _; exact ⟨h, rfl, fun i _ => rfl⟩
  | cons o l ih =>
    intro d h ho hc
    have hc : d.cache.length + (l.length + 1) ≤ 200 := hc
    have h1 := stepR_len (o := o) h
    have h2 := stepR_cache (o := o) h
    obtain ⟨a, b, c⟩ := ih (stepR_right (o := o) h) (by rw [h1]; exact ho.cons) (by omega)
    refine ⟨a, b.trans h1, fun i hi => ?_⟩
    show (runL (stepR d o) l).read i = rdO l i (if o.sync = false ∧ o.w.at_ = (i : Int) then o.w.data else d.read i)
    rw [c i (by omega), stepR_read h hi (by omega) (ho o (List.mem_cons_self ..))]

theorem runL_app {d : Dsk} {l m : List Op} : runL d (l ++ m) = runL (runL d l) m := by unfold runL; rw [List.foldl_append]
/-- Behind a sync nothing waits. -/
theorem runL_calm {d : Dsk} {l : List Op} {o : Op} (h : right (runL d l)) (hs : o.sync = true) : (runL d (l ++ [o])).cache = [] := by
  rw [runL_snoc]; unfold stepR; rw [if_pos hs]; exact sync_cache h

/-- Writes alone wait. -/
theorem runL_puts {l : List Op} : ∀ {d : Dsk}, right d → okO d.secs.length l → (∀ o ∈ l, o.sync = false) → d.cache.length + l.length ≤ 200 → runL d l = ⟨d.secs, d.cache ++ l.map (·.w)⟩ := by
  induction l with
  | nil => intro d _ _ _ _; simp [runL]
  | cons o l ih =>
    intro d h ho hs hc
    have hc : d.cache.length + (l.length + 1) ≤ 200 := hc
    have h0 := hs o (List.mem_cons_self ..)
    have he : stepR d o = ⟨d.secs, d.cache ++ [o.w]⟩ := by
      unfold stepR; rw [if_neg (by simp [h0])]
      unfold Dsk.put; exact if_pos ⟨h, ho o (List.mem_cons_self ..) h0, by omega⟩
    show runL (stepR d o) l = _
    have hr := stepR_right (o := o) h
    rw [he] at hr ⊢
    rw [ih hr ho.cons (fun x hx => hs x (List.mem_cons_of_mem _ hx)) (by simp; omega)]
    simp

theorem read_calm {d : Dsk} (h : d.cache = []) (i : Nat) : d.read i = d.secs.getD i [] := by unfold Dsk.read; rw [h]; rfl

/-- A disk of 35 sectors on which nothing waits. -/
structure Calm (d : Dsk) : Prop where
  r : right d
  n : d.secs.length = 35
  c : d.cache = []
theorem Calm.usable {d : Dsk} (h : Calm d) : usable d := ⟨h.r, by rw [h.n]; exact Nat.le_refl _⟩
theorem Calm.ext {d e : Dsk} (h : Calm d) (k : Calm e) (hr : ∀ i, i < 35 → d.read i = e.read i) : d = e := by
  obtain ⟨ds, dc⟩ := d
  obtain ⟨es, ec⟩ := e
  obtain ⟨_, h2, rfl⟩ := h
  obtain ⟨_, k2, rfl⟩ := k
  congr 1
  have h2 : ds.length = 35 := h2
  have k2 : es.length = 35 := k2
  refine eq_of_getD (by omega) fun i hi => ?_
  exact hr i (by omega)

/-- A crash behind operations: each place reads what was synced, or what was written behind it. -/
theorem crash_run {d : Dsk} {l m : List Op} {keep : List Int} (h : right d) (hn : d.secs.length = 35) (hl : okO 35 l) (hm : okO 35 m) (hc : d.cache.length + (l.length + m.length) ≤ 200) (hs : ∀ o ∈ m, o.sync = false) (hcalm : (runL d l).cache = []) :
    Calm ((runL d (l ++ m)).crash keep) ∧ ∀ i, i < 35 → ((runL d (l ++ m)).crash keep).read i = rdO l i (d.read i) ∨ ∃ o ∈ m, o.w.at_ = (i : Int) ∧ ((runL d (l ++ m)).crash keep).read i = o.w.data := by
  obtain ⟨r1, n1, e1⟩ := runL_all h (by rw [hn]; exact hl) (by omega)
  have r2 := runL_puts r1 (by rw [n1, hn]; exact hm) hs (by rw [hcalm]; simp; omega)
  have r3 := (runL_all r1 (l := m) (by rw [n1, hn]; exact hm) (by rw [hcalm]; simp; omega)).1
  rw [← runL_app] at r2 r3
  have hcr : (runL d (l ++ m)).crash keep = ⟨wrS (runL d (l ++ m)).secs (kpL (runL d (l ++ m)).cache keep (runL d (l ++ m)).cache.length), []⟩ := if_pos r3
  have n3 : (runL d (l ++ m)).secs.length = 35 := by rw [r2]; show (runL d l).secs.length = 35; omega
  have hlen : ((runL d (l ++ m)).crash keep).secs.length = 35 := by rw [hcr]; show (wrS _ _).length = 35; rw [wrS_len, n3]
  have hcc : ((runL d (l ++ m)).crash keep).cache = [] := by rw [hcr]
  refine ⟨⟨r3.crash, hlen, hcc⟩, fun i hi => ?_⟩
  have hrd : ((runL d (l ++ m)).crash keep).read i = rdL (kpL (runL d (l ++ m)).cache keep (runL d (l ++ m)).cache.length) i ((runL d (l ++ m)).secs.getD i default) := by
    rw [read_calm hcc, hcr]
    exact wrS_at (by omega) fun w hw => r3.rng w (kpL_mem (Nat.le_refl _) w hw)
  rw [hrd]
  have hsec : (runL d (l ++ m)).secs.getD i default = rdO l i (d.read i) := by
    rw [← e1 i (by omega), read_calm hcalm, r2]; rfl
  rcases rdL_mem (l := kpL (runL d (l ++ m)).cache keep (runL d (l ++ m)).cache.length) (at_ := i) (s := (runL d (l ++ m)).secs.getD i default) with h1 | ⟨w, hw, h1, h2⟩
  · exact .inl (h1.trans hsec)
  · right
    have hw := kpL_mem (Nat.le_refl _) w hw
    rw [r2, hcalm, List.nil_append] at hw
    obtain ⟨o, ho, rfl⟩ := List.mem_map.1 hw
    exact ⟨o, ho, h1, h2⟩
end Lk.S12
