/- For every list of weights and every list of acts SchedActs returns true, and the arguments read behind the call as they read before: no condition. -/
import Derived.Test.YtaijfhomokkpeaaGs06b
import Derived.Test.YtaijfhomokkpeaaR06
set_option linter.unusedSimpArgs false
set_option maxHeartbeats 8000000
set_option maxRecDepth 100000
set_option linter.unusedVariables false
namespace Go.Proofs.Ytaijfhomokkpeaa
open Go.ChangeShapes Go.WideShapes Go.ChangeAt Go.RowKit Lk Lk.C Lk.S03 Lk.S04 Lk.S06
theorem kActs : law06_SchedActs_k Try.prog F04 := by unfold law06_SchedActs_k; kernel_rfl
theorem kR6 : KR6 Try.prog F04 where
  m := mixed
  v := kRV
  right5 := by unfold ref05_Right_k; kernel_rfl
  same5 := by unfold ref05_Same_k; kernel_rfl
  cost := by unfold ref06_Cost_k; kernel_rfl
  behind := by unfold ref06_behind_k; kernel_rfl
  without := by unfold ref06_without_k; kernel_rfl
  jobs := by unfold ref06_jobs_k; kernel_rfl
  waits := by unfold ref05_Waits_k; kernel_rfl
  over := by unfold ref05_over_k; kernel_rfl
  with_ := by unfold ref05_with_k; kernel_rfl
  next := by unfold ref05_Next_k; kernel_rfl
  right := by unfold ref06_Right_k; kernel_rfl
  ask := by unfold ref06_Ask_k; kernel_rfl
  again := by unfold ref06_again_k; kernel_rfl
  pump := by unfold ref06_Pump_k; kernel_rfl
  done := by unfold ref06_Done_k; kernel_rfl
  crash := by unfold ref06_Crash_k; kernel_rfl
  same := by unfold ref06_Same_k; kernel_rfl
  ref := by unfold law06_ref_k; kernel_rfl
theorem args_schedActs (ps : List PV) (h : SPs Try.prog 5 [58, 65] ps) : FnOk Try.prog 11 ps [.one (.im (.bool true))] := by
  obtain ⟨a0, p0, q0, w0, e0, r0, h0⟩ := h.enc1 (EList EInt) rfl sh6Ints ag6Ints
  obtain ⟨a1, p1, q1, w1, e1, r1, h1⟩ := h0.enc1 (EList EAc) rfl shAcs agAcs
  have rn := h1.nil'
  subst r0 r1 rn
  exact (schedActs_law kLS kR6 kActs a0 a1 w0.2 w1).args (.cons e0 (.cons e1 .nil))
set_option maxRecDepth 100000 in
theorem schedActs_lifted (os : Os) (started : os.Started) (H : Type) (enc : TypeId × Value → H) :
    ReturnsInHanded {} Try.checked os 11 .any (Rows.schedActsSpec.pre6 enc Try.prog Try.f11 Rows.schedActsRow.domain false) (Rows.schedActsSpec.post enc Try.prog Try.f11 false true false false) := by
  refine returnsInHanded_of_change (C := Try.checked) ownGod started (by kernel_rfl) Try.func11
    (ChangeSpec.witness6 (enc := enc) (C := Try.checked) false ⟨#[], #[.slice none 0 0, .slice none 0 0], []⟩ 8 (by kernel_rfl) (by kernel_rfl) (by kernel_rfl) (by kernel_rfl)) ?_
  intro W base args ds gs before hval hW _ _
  exact law_call (n := 5) (fn := Try.f11) (s := Rows.schedActsSpec) laidAll (by kernel_rfl) rfl Try.underlying4 rfl
    (fun ds hd => by match ds, hd with | [d0, d1], _ => rfl) (fun ps hp => args_schedActs ps hp) hval hW
theorem schedActs_holds : Rows.SchedActsSaid :=
  OpenClaim.holds_of_wide 11 Try.f11 rfl rfl rfl rfl rfl rfl rfl ⟨rfl, rfl, rfl, rfl, rfl⟩ rfl rfl rfl rfl rfl (by kernel_rfl) Try.func11 (by kernel_rfl)
    (of_decide_eq_true (by kernel_rfl)) (by unfold Func.isWrapper; first | (rw [if_pos (by decide +kernel)]; kernel_rfl) | (rw [if_neg (by decide +kernel)]; exact ⟨rfl, rfl⟩))
    (fun os started H enc _ => schedActs_lifted os started H enc)
#print axioms schedActs_holds
end Go.Proofs.Ytaijfhomokkpeaa
