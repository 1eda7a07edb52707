/- For every disk, place, write and list of writes kept DiskExact returns true, and the arguments read behind the call as they read before: no condition. -/
import Derived.Test.YtebbledmaegfpaaW03i
import Derived.Test.YtebbledmaegfpaaR03b
namespace Go.Proofs.Ytebbledmaegfpaa
open Go.ChangeShapes Go.WideShapes Go.ChangeAt Go.RowKit Lk Lk.C Lk.S03

theorem kExact : law03_DiskExact_k Try.prog F03 := by unfold law03_DiskExact_k; kernel_rfl
theorem args_diskExact (ps : List PV) (h : SPs Try.prog 4 [25, 3, 35, 31] ps) : FnOk Try.prog 6 ps [.one (.im (.bool true))] := by
  obtain ⟨a0, p0, q0, w0, e0, r0, h0⟩ := h.enc EDsk shDsk agDsk
  obtain ⟨a1, p1, q1, w1, e1, r1, h1⟩ := h0.enc1 EInt rfl shInt agInt
  obtain ⟨a2, p2, q2, w2, e2, r2, h2⟩ := h1.enc EWr shWr agWr
  obtain ⟨a3, p3, q3, w3, e3, r3, h3⟩ := h2.enc1 (EList EInt) rfl shInts agInts
  have rn := h3.nil'
  subst r0 r1 r2 r3 rn
  exact (diskExact_law kLaw kRef kExact a0 a1 a2 a3 w0 w2 w3.2).args (.cons e0 (.cons e1 (.cons e2 (.cons e3 .nil))))

set_option maxRecDepth 100000 in
theorem diskExact_lifted (os : Os) (started : os.Started) (H : Type) (enc : TypeId × Value → H) :
    ReturnsInHanded {} Try.checked os 6 .any (Rows.diskExactSpec.pre6 enc Try.prog Try.f6 Rows.diskExactRow.domain false) (Rows.diskExactSpec.post enc Try.prog Try.f6 false true false false) := by
  refine returnsInHanded_of_change (C := Try.checked) ownGod started (by kernel_rfl) Try.func6
    (ChangeSpec.witness6 (enc := enc) (C := Try.checked) false ⟨#[], #[.agg #[.slice none 0 0, .slice none 0 0], .int .i64 0, .agg #[.int .i64 0, .string ⟨⟨[]⟩⟩], .slice none 0 0], []⟩ 8 (by kernel_rfl) (by kernel_rfl) (by kernel_rfl) (by kernel_rfl)) ?_
  intro W base args ds gs before hval hW _ _
  exact law_call (n := 4) (fn := Try.f6) (s := Rows.diskExactSpec) laidAll (by kernel_rfl) rfl Try.underlying4 rfl
    (fun ds hd => by match ds, hd with | [d0, d1, d2, d3], _ => rfl) (fun ps hp => args_diskExact ps hp) hval hW

theorem diskExact_holds : Rows.DiskExactSaid :=
  OpenClaim.holds_of_wide 6 Try.f6 rfl rfl rfl rfl rfl rfl rfl ⟨rfl, rfl, rfl, rfl, rfl⟩ rfl rfl rfl rfl rfl (by kernel_rfl) Try.func6 (by kernel_rfl)
    (of_decide_eq_true (by kernel_rfl)) (by unfold Func.isWrapper; first | (rw [if_pos (by decide +kernel)]; kernel_rfl) | (rw [if_neg (by decide +kernel)]; exact ⟨rfl, rfl⟩))
    (fun os started H enc _ => diskExact_lifted os started H enc)
#print axioms diskExact_holds
end Go.Proofs.Ytebbledmaegfpaa
