/-
  No cell of these rows narrows 'for every input' (looked for: loops, veiled, ifaces, maps, wideKeys, modest, calm, conditions, laid).
  DERIVED. THE GIVEN ROWS OF THIS SEAT. 5 by the template 'for every input the law returns true; each argument reads behind the call as it read before'; 0 by the template 'total and deterministic' (their statements: YtdpghfcbkcjecaaTotals.lean).
  GIVEN WITH THE SEED: the statements are not yours to turn. If you find one false, say at which input.
  Laid BY PROGRAM, IN A SANDBOX (cutbox-rows.mjs): the forced cells as the released guide's own fill.sh prints them over the translation c2758fd33a9557a1… (all of the seat's roots in one cut). By AI agents, Wed Nov 11 2026. No macro, syntax, notation, axiom, sorry.
-/
import Derived.Test.YtdpghfcbkcjecaaChecked
import GoSem.Claim
import GoSem.ClaimJoined
import GoSem.ClaimMapViews
import Derived.JoinedTies
import Derived.KernelRfl
namespace Go.Proofs.Ytdpghfcbkcjecaa
/- THE CELL 'sum', in the pinned program and in every row, IS THE sha256 OF THE DUMP (.gsa) THAT YtdpghfcbkcjecaaProg.lean LOADS. Nothing in Lean hashes anything: it is a label: what it is worth is what the hold of that sum in a sandbox is worth. -/
noncomputable def Try.pinned : Pinned := { name := "ytdpghfcbkcjecaa", sum := "c2758fd33a9557a15b7f97c4c60a1a0117992d17a616709dc03ffc2566f76c2e", checked := Try.checked }
namespace Rows
def none {H : Type} : Left H := { results := [], args := [] }

/-- 'lockkeeperlaw09.ClockSweeps': WHATEVER THE INPUT: true; the input reads as it did. -/
def clockSweepsSpec : ChangeSpec := { name := "clockSweeps", fn := fun _ => fun
  | [d1, d2] => { results := [.lit (.bool true)], args := [d1, d2] }
  | _ => none }
def clockSweepsRow : OpenClaim := { program := "ytdpghfcbkcjecaa", sum := "c2758fd33a9557a15b7f97c4c60a1a0117992d17a616709dc03ffc2566f76c2e", func := "lockkeeper/lockkeeperlaw09.ClockSweeps", spec := "clockSweeps", unfollowed := true, recurses := true, apart := false }
def ClockSweepsSaid : Prop := clockSweepsRow.holds Try.pinned (OpenSpec.ofChange clockSweepsSpec)

/-- ITS FALSE NEIGHBOUR: 'it returns false'. Refute it at one input. -/
def clockSweepsWrong : ChangeSpec := { name := "clockSweeps", fn := fun _ => fun
  | [d1, d2] => { results := [.lit (.bool false)], args := [d1, d2] }
  | _ => none }
def ClockSweepsWrongFalsely : Prop := clockSweepsRow.holds Try.pinned (OpenSpec.ofChange clockSweepsWrong)

/-- 'lockkeeperlaw09.ClockFair': WHATEVER THE INPUT: true; the input reads as it did. -/
def clockFairSpec : ChangeSpec := { name := "clockFair", fn := fun _ => fun
  | [d] => { results := [.lit (.bool true)], args := [d] }
  | _ => none }
def clockFairRow : OpenClaim := { program := "ytdpghfcbkcjecaa", sum := "c2758fd33a9557a15b7f97c4c60a1a0117992d17a616709dc03ffc2566f76c2e", func := "lockkeeper/lockkeeperlaw09.ClockFair", spec := "clockFair", unfollowed := true, recurses := true, apart := false }
def ClockFairSaid : Prop := clockFairRow.holds Try.pinned (OpenSpec.ofChange clockFairSpec)

/-- ITS FALSE NEIGHBOUR: 'it returns false'. Refute it at one input. -/
def clockFairWrong : ChangeSpec := { name := "clockFair", fn := fun _ => fun
  | [d] => { results := [.lit (.bool false)], args := [d] }
  | _ => none }
def ClockFairWrongFalsely : Prop := clockFairRow.holds Try.pinned (OpenSpec.ofChange clockFairWrong)

/-- 'lockkeeperlaw09.ClockRound': WHATEVER THE INPUT: true; the input reads as it did. -/
def clockRoundSpec : ChangeSpec := { name := "clockRound", fn := fun _ => fun
  | [d1, d2] => { results := [.lit (.bool true)], args := [d1, d2] }
  | _ => none }
def clockRoundRow : OpenClaim := { program := "ytdpghfcbkcjecaa", sum := "c2758fd33a9557a15b7f97c4c60a1a0117992d17a616709dc03ffc2566f76c2e", func := "lockkeeper/lockkeeperlaw09.ClockRound", spec := "clockRound", unfollowed := true, recurses := true, apart := false }
def ClockRoundSaid : Prop := clockRoundRow.holds Try.pinned (OpenSpec.ofChange clockRoundSpec)

/-- ITS FALSE NEIGHBOUR: 'it returns false'. Refute it at one input. -/
def clockRoundWrong : ChangeSpec := { name := "clockRound", fn := fun _ => fun
  | [d1, d2] => { results := [.lit (.bool false)], args := [d1, d2] }
  | _ => none }
def ClockRoundWrongFalsely : Prop := clockRoundRow.holds Try.pinned (OpenSpec.ofChange clockRoundWrong)

/-- 'lockkeeperlaw09.ClockTouch': WHATEVER THE INPUT: true; the input reads as it did. -/
def clockTouchSpec : ChangeSpec := { name := "clockTouch", fn := fun _ => fun
  | [d1, d2, d3] => { results := [.lit (.bool true)], args := [d1, d2, d3] }
  | _ => none }
def clockTouchRow : OpenClaim := { program := "ytdpghfcbkcjecaa", sum := "c2758fd33a9557a15b7f97c4c60a1a0117992d17a616709dc03ffc2566f76c2e", func := "lockkeeper/lockkeeperlaw09.ClockTouch", spec := "clockTouch", unfollowed := true, recurses := true, apart := false }
def ClockTouchSaid : Prop := clockTouchRow.holds Try.pinned (OpenSpec.ofChange clockTouchSpec)

/-- ITS FALSE NEIGHBOUR: 'it returns false'. Refute it at one input. -/
def clockTouchWrong : ChangeSpec := { name := "clockTouch", fn := fun _ => fun
  | [d1, d2, d3] => { results := [.lit (.bool false)], args := [d1, d2, d3] }
  | _ => none }
def ClockTouchWrongFalsely : Prop := clockTouchRow.holds Try.pinned (OpenSpec.ofChange clockTouchWrong)

/-- 'lockkeeperlaw09.ClockHand': WHATEVER THE INPUT: true; the input reads as it did. -/
def clockHandSpec : ChangeSpec := { name := "clockHand", fn := fun _ => fun
  | [d] => { results := [.lit (.bool true)], args := [d] }
  | _ => none }
def clockHandRow : OpenClaim := { program := "ytdpghfcbkcjecaa", sum := "c2758fd33a9557a15b7f97c4c60a1a0117992d17a616709dc03ffc2566f76c2e", func := "lockkeeper/lockkeeperlaw09.ClockHand", spec := "clockHand", unfollowed := true, recurses := true, apart := false }
def ClockHandSaid : Prop := clockHandRow.holds Try.pinned (OpenSpec.ofChange clockHandSpec)

/-- ITS FALSE NEIGHBOUR: 'it returns false'. Refute it at one input. -/
def clockHandWrong : ChangeSpec := { name := "clockHand", fn := fun _ => fun
  | [d] => { results := [.lit (.bool false)], args := [d] }
  | _ => none }
def ClockHandWrongFalsely : Prop := clockHandRow.holds Try.pinned (OpenSpec.ofChange clockHandWrong)

/- THE SECOND FORM. 'bulk': how many values and letters a reading holds, each counted each time it is reached (what is shared counts as often as it is met; a slice's spare places count too). A statement '..UptoSaid' is the law's where the arguments, and the package variables that the reading takes, are together of bulk at most 1048576: NARROWER than '..Said'. Prove '..Said' where nothing that the law and all that it calls make is longer than what came in: it says more and counts as full. Else prove '..UptoSaid'. A law counts once. -/
mutual
def uptoBulk {H : Type} : DataW H → Nat
  | .lit (.string bytes) => bytes.length + 1
  | .lit _ => 1
  | .nil => 1
  | .ptr d => uptoBulk d + 1
  | .slice elems spare => uptoBulkAll elems + uptoBulkAll spare + 1
  | .agg parts => uptoBulkAll parts + 1
  | .iface _ d => uptoBulk d + 1
  | .map entries => uptoBulkEntries entries + 1
  | .held _ => 1
def uptoBulkAll {H : Type} : List (DataW H) → Nat
  | [] => 0
  | d :: r => uptoBulk d + uptoBulkAll r
def uptoBulkEntries {H : Type} : List (Lit × DataW H) → Nat
  | [] => 0
  | x :: r => uptoBulkEntry x + uptoBulkEntries r
def uptoBulkEntry {H : Type} : Lit × DataW H → Nat
  | (.string bytes, d) => bytes.length + uptoBulk d + 1
  | (_, d) => uptoBulk d + 1
 end
def uptoSmall : (H : Type) → List (DataW H) → Bool := fun _ ds => decide (uptoBulkAll ds ≤ 1048576)
def OpenSpec.upto (s : _root_.Go.ChangeSpec) : _root_.Go.OpenSpec := { _root_.Go.OpenSpec.ofChange s with cond := some uptoSmall }

/-- 'lockkeeperlaw09.ClockSweeps', WHERE WHAT IT READS IS OF BULK AT MOST 1048576: true; the input reads as it did. -/
def clockSweepsUptoRow : OpenClaim := { program := "ytdpghfcbkcjecaa", sum := "c2758fd33a9557a15b7f97c4c60a1a0117992d17a616709dc03ffc2566f76c2e", func := "lockkeeper/lockkeeperlaw09.ClockSweeps", spec := "clockSweeps", unfollowed := true, recurses := true, apart := false, narrowed := true }
def ClockSweepsUptoSaid : Prop := clockSweepsUptoRow.holds Try.pinned (OpenSpec.upto clockSweepsSpec)

/-- 'lockkeeperlaw09.ClockFair', WHERE WHAT IT READS IS OF BULK AT MOST 1048576: true; the input reads as it did. -/
def clockFairUptoRow : OpenClaim := { program := "ytdpghfcbkcjecaa", sum := "c2758fd33a9557a15b7f97c4c60a1a0117992d17a616709dc03ffc2566f76c2e", func := "lockkeeper/lockkeeperlaw09.ClockFair", spec := "clockFair", unfollowed := true, recurses := true, apart := false, narrowed := true }
def ClockFairUptoSaid : Prop := clockFairUptoRow.holds Try.pinned (OpenSpec.upto clockFairSpec)

/-- 'lockkeeperlaw09.ClockRound', WHERE WHAT IT READS IS OF BULK AT MOST 1048576: true; the input reads as it did. -/
def clockRoundUptoRow : OpenClaim := { program := "ytdpghfcbkcjecaa", sum := "c2758fd33a9557a15b7f97c4c60a1a0117992d17a616709dc03ffc2566f76c2e", func := "lockkeeper/lockkeeperlaw09.ClockRound", spec := "clockRound", unfollowed := true, recurses := true, apart := false, narrowed := true }
def ClockRoundUptoSaid : Prop := clockRoundUptoRow.holds Try.pinned (OpenSpec.upto clockRoundSpec)

/-- 'lockkeeperlaw09.ClockTouch', WHERE WHAT IT READS IS OF BULK AT MOST 1048576: true; the input reads as it did. -/
def clockTouchUptoRow : OpenClaim := { program := "ytdpghfcbkcjecaa", sum := "c2758fd33a9557a15b7f97c4c60a1a0117992d17a616709dc03ffc2566f76c2e", func := "lockkeeper/lockkeeperlaw09.ClockTouch", spec := "clockTouch", unfollowed := true, recurses := true, apart := false, narrowed := true }
def ClockTouchUptoSaid : Prop := clockTouchUptoRow.holds Try.pinned (OpenSpec.upto clockTouchSpec)

/-- 'lockkeeperlaw09.ClockHand', WHERE WHAT IT READS IS OF BULK AT MOST 1048576: true; the input reads as it did. -/
def clockHandUptoRow : OpenClaim := { program := "ytdpghfcbkcjecaa", sum := "c2758fd33a9557a15b7f97c4c60a1a0117992d17a616709dc03ffc2566f76c2e", func := "lockkeeper/lockkeeperlaw09.ClockHand", spec := "clockHand", unfollowed := true, recurses := true, apart := false, narrowed := true }
def ClockHandUptoSaid : Prop := clockHandUptoRow.holds Try.pinned (OpenSpec.upto clockHandSpec)

end Rows
end Go.Proofs.Ytdpghfcbkcjecaa
