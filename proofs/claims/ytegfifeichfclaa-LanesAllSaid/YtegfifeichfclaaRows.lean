/-
  No cell of these rows narrows 'for every input' (looked for: loops, veiled, ifaces, maps, wideKeys, modest, calm, conditions, laid).
  DERIVED. THE GIVEN ROWS OF THIS SEAT. 7 by the template 'for every input the law returns true; each argument reads behind the call as it read before'; 0 by the template 'total and deterministic' (their statements: YtegfifeichfclaaTotals.lean).
  GIVEN WITH THE SEED: the statements are not yours to turn. If you find one false, say at which input.
  Laid BY PROGRAM, IN A SANDBOX (cutbox-rows.mjs): the forced cells as the released guide's own fill.sh prints them over the translation 10231af7c28bd1ff… (all of the seat's roots in one cut). By AI agents, Wed Nov 11 2026. No macro, syntax, notation, axiom, sorry.
-/
import Derived.Test.YtegfifeichfclaaChecked
import GoSem.Claim
import GoSem.ClaimJoined
import GoSem.ClaimMapViews
import Derived.JoinedTies
import Derived.KernelRfl
namespace Go.Proofs.Ytegfifeichfclaa
/- THE CELL 'sum', in the pinned program and in every row, IS THE sha256 OF THE DUMP (.gsa) THAT YtegfifeichfclaaProg.lean LOADS. Nothing in Lean hashes anything: it is a label: what it is worth is what the hold of that sum in a sandbox is worth. -/
noncomputable def Try.pinned : Pinned := { name := "ytegfifeichfclaa", sum := "10231af7c28bd1ff234455beb0563d2afc4040d2253bb01a761109e31f3fa253", checked := Try.checked }
namespace Rows
def none {H : Type} : Left H := { results := [], args := [] }

/-- 'lockkeeperlaw05.LanesPush': WHATEVER THE INPUT: true; the input reads as it did. -/
def lanesPushSpec : ChangeSpec := { name := "lanesPush", fn := fun _ => fun
  | [d1, d2, d3, d4] => { results := [.lit (.bool true)], args := [d1, d2, d3, d4] }
  | _ => none }
def lanesPushRow : OpenClaim := { program := "ytegfifeichfclaa", sum := "10231af7c28bd1ff234455beb0563d2afc4040d2253bb01a761109e31f3fa253", func := "lockkeeper/lockkeeperlaw05.LanesPush", spec := "lanesPush", unfollowed := true, recurses := true, apart := false }
def LanesPushSaid : Prop := lanesPushRow.holds Try.pinned (OpenSpec.ofChange lanesPushSpec)

/-- ITS FALSE NEIGHBOUR: 'it returns false'. Refute it at one input. -/
def lanesPushWrong : ChangeSpec := { name := "lanesPush", fn := fun _ => fun
  | [d1, d2, d3, d4] => { results := [.lit (.bool false)], args := [d1, d2, d3, d4] }
  | _ => none }
def LanesPushWrongFalsely : Prop := lanesPushRow.holds Try.pinned (OpenSpec.ofChange lanesPushWrong)

/-- 'lockkeeperlaw05.LanesFair': WHATEVER THE INPUT: true; the input reads as it did. -/
def lanesFairSpec : ChangeSpec := { name := "lanesFair", fn := fun _ => fun
  | [d1, d2, d3] => { results := [.lit (.bool true)], args := [d1, d2, d3] }
  | _ => none }
def lanesFairRow : OpenClaim := { program := "ytegfifeichfclaa", sum := "10231af7c28bd1ff234455beb0563d2afc4040d2253bb01a761109e31f3fa253", func := "lockkeeper/lockkeeperlaw05.LanesFair", spec := "lanesFair", unfollowed := true, recurses := true, apart := false }
def LanesFairSaid : Prop := lanesFairRow.holds Try.pinned (OpenSpec.ofChange lanesFairSpec)

/-- ITS FALSE NEIGHBOUR: 'it returns false'. Refute it at one input. -/
def lanesFairWrong : ChangeSpec := { name := "lanesFair", fn := fun _ => fun
  | [d1, d2, d3] => { results := [.lit (.bool false)], args := [d1, d2, d3] }
  | _ => none }
def LanesFairWrongFalsely : Prop := lanesFairRow.holds Try.pinned (OpenSpec.ofChange lanesFairWrong)

/-- 'lockkeeperlaw05.LanesStretch': WHATEVER THE INPUT: true; the input reads as it did. -/
def lanesStretchSpec : ChangeSpec := { name := "lanesStretch", fn := fun _ => fun
  | [d1, d2, d3, d4] => { results := [.lit (.bool true)], args := [d1, d2, d3, d4] }
  | _ => none }
def lanesStretchRow : OpenClaim := { program := "ytegfifeichfclaa", sum := "10231af7c28bd1ff234455beb0563d2afc4040d2253bb01a761109e31f3fa253", func := "lockkeeper/lockkeeperlaw05.LanesStretch", spec := "lanesStretch", unfollowed := true, recurses := true, apart := false }
def LanesStretchSaid : Prop := lanesStretchRow.holds Try.pinned (OpenSpec.ofChange lanesStretchSpec)

/-- ITS FALSE NEIGHBOUR: 'it returns false'. Refute it at one input. -/
def lanesStretchWrong : ChangeSpec := { name := "lanesStretch", fn := fun _ => fun
  | [d1, d2, d3, d4] => { results := [.lit (.bool false)], args := [d1, d2, d3, d4] }
  | _ => none }
def LanesStretchWrongFalsely : Prop := lanesStretchRow.holds Try.pinned (OpenSpec.ofChange lanesStretchWrong)

/-- 'lockkeeperlaw05.LanesAll': WHATEVER THE INPUT: true; the input reads as it did. -/
def lanesAllSpec : ChangeSpec := { name := "lanesAll", fn := fun _ => fun
  | [d1, d2] => { results := [.lit (.bool true)], args := [d1, d2] }
  | _ => none }
def lanesAllRow : OpenClaim := { program := "ytegfifeichfclaa", sum := "10231af7c28bd1ff234455beb0563d2afc4040d2253bb01a761109e31f3fa253", func := "lockkeeper/lockkeeperlaw05.LanesAll", spec := "lanesAll", unfollowed := true, recurses := true, apart := false }
def LanesAllSaid : Prop := lanesAllRow.holds Try.pinned (OpenSpec.ofChange lanesAllSpec)

/-- ITS FALSE NEIGHBOUR: 'it returns false'. Refute it at one input. -/
def lanesAllWrong : ChangeSpec := { name := "lanesAll", fn := fun _ => fun
  | [d1, d2] => { results := [.lit (.bool false)], args := [d1, d2] }
  | _ => none }
def LanesAllWrongFalsely : Prop := lanesAllRow.holds Try.pinned (OpenSpec.ofChange lanesAllWrong)

/-- 'lockkeeperlaw05.LanesAlone': WHATEVER THE INPUT: true; the input reads as it did. -/
def lanesAloneSpec : ChangeSpec := { name := "lanesAlone", fn := fun _ => fun
  | [d1, d2, d3] => { results := [.lit (.bool true)], args := [d1, d2, d3] }
  | _ => none }
def lanesAloneRow : OpenClaim := { program := "ytegfifeichfclaa", sum := "10231af7c28bd1ff234455beb0563d2afc4040d2253bb01a761109e31f3fa253", func := "lockkeeper/lockkeeperlaw05.LanesAlone", spec := "lanesAlone", unfollowed := true, recurses := true, apart := false }
def LanesAloneSaid : Prop := lanesAloneRow.holds Try.pinned (OpenSpec.ofChange lanesAloneSpec)

/-- ITS FALSE NEIGHBOUR: 'it returns false'. Refute it at one input. -/
def lanesAloneWrong : ChangeSpec := { name := "lanesAlone", fn := fun _ => fun
  | [d1, d2, d3] => { results := [.lit (.bool false)], args := [d1, d2, d3] }
  | _ => none }
def LanesAloneWrongFalsely : Prop := lanesAloneRow.holds Try.pinned (OpenSpec.ofChange lanesAloneWrong)

/-- 'lockkeeperlaw05.LanesEqual': WHATEVER THE INPUT: true; the input reads as it did. -/
def lanesEqualSpec : ChangeSpec := { name := "lanesEqual", fn := fun _ => fun
  | [d1, d2, d3] => { results := [.lit (.bool true)], args := [d1, d2, d3] }
  | _ => none }
def lanesEqualRow : OpenClaim := { program := "ytegfifeichfclaa", sum := "10231af7c28bd1ff234455beb0563d2afc4040d2253bb01a761109e31f3fa253", func := "lockkeeper/lockkeeperlaw05.LanesEqual", spec := "lanesEqual", unfollowed := true, recurses := true, apart := false }
def LanesEqualSaid : Prop := lanesEqualRow.holds Try.pinned (OpenSpec.ofChange lanesEqualSpec)

/-- ITS FALSE NEIGHBOUR: 'it returns false'. Refute it at one input. -/
def lanesEqualWrong : ChangeSpec := { name := "lanesEqual", fn := fun _ => fun
  | [d1, d2, d3] => { results := [.lit (.bool false)], args := [d1, d2, d3] }
  | _ => none }
def LanesEqualWrongFalsely : Prop := lanesEqualRow.holds Try.pinned (OpenSpec.ofChange lanesEqualWrong)

/-- 'lockkeeperlaw05.LanesServed': WHATEVER THE INPUT: true; the input reads as it did. -/
def lanesServedSpec : ChangeSpec := { name := "lanesServed", fn := fun _ => fun
  | [d1, d2, d3] => { results := [.lit (.bool true)], args := [d1, d2, d3] }
  | _ => none }
def lanesServedRow : OpenClaim := { program := "ytegfifeichfclaa", sum := "10231af7c28bd1ff234455beb0563d2afc4040d2253bb01a761109e31f3fa253", func := "lockkeeper/lockkeeperlaw05.LanesServed", spec := "lanesServed", unfollowed := true, recurses := true, apart := false }
def LanesServedSaid : Prop := lanesServedRow.holds Try.pinned (OpenSpec.ofChange lanesServedSpec)

/-- ITS FALSE NEIGHBOUR: 'it returns false'. Refute it at one input. -/
def lanesServedWrong : ChangeSpec := { name := "lanesServed", fn := fun _ => fun
  | [d1, d2, d3] => { results := [.lit (.bool false)], args := [d1, d2, d3] }
  | _ => none }
def LanesServedWrongFalsely : Prop := lanesServedRow.holds Try.pinned (OpenSpec.ofChange lanesServedWrong)

/- THE SECOND FORM. 'bulk': how many values and letters a reading holds, each counted each time it is reached (what is shared counts as often as it is met; a slice's spare places count too). A statement '..UptoSaid' is the law's where the arguments, and the package variables that the reading takes, are together of bulk at most 1048576: NARROWER than '..Said'. Prove '..Said' where nothing that the law and all that it calls make is longer than what came in: it says more and counts as full. Else prove '..UptoSaid'. A law counts once. -/
mutual
def uptoBulk {H : Type} : DataW H → Nat
  | .lit (.string bytes) => bytes.length + 1
  | .lit _ => 1
  | .nil => 1
  | .ptr d => uptoBulk d + 1
  | .slice elems spare => uptoBulkAll elems + uptoBulkAll spare + 1
  | .agg parts => uptoBulkAll parts + 1
  | .iface _ d => uptoBulk d + 1
  | .map entries => uptoBulkEntries entries + 1
  | .held _ => 1
def uptoBulkAll {H : Type} : List (DataW H) → Nat
  | [] => 0
  | d :: r => uptoBulk d + uptoBulkAll r
def uptoBulkEntries {H : Type} : List (Lit × DataW H) → Nat
  | [] => 0
  | x :: r => uptoBulkEntry x + uptoBulkEntries r
def uptoBulkEntry {H : Type} : Lit × DataW H → Nat
  | (.string bytes, d) => bytes.length + uptoBulk d + 1
  | (_, d) => uptoBulk d + 1
 end
def uptoSmall : (H : Type) → List (DataW H) → Bool := fun _ ds => decide (uptoBulkAll ds ≤ 1048576)
def OpenSpec.upto (s : _root_.Go.ChangeSpec) : _root_.Go.OpenSpec := { _root_.Go.OpenSpec.ofChange s with cond := some uptoSmall }

/-- 'lockkeeperlaw05.LanesPush', WHERE WHAT IT READS IS OF BULK AT MOST 1048576: true; the input reads as it did. -/
def lanesPushUptoRow : OpenClaim := { program := "ytegfifeichfclaa", sum := "10231af7c28bd1ff234455beb0563d2afc4040d2253bb01a761109e31f3fa253", func := "lockkeeper/lockkeeperlaw05.LanesPush", spec := "lanesPush", unfollowed := true, recurses := true, apart := false, narrowed := true }
def LanesPushUptoSaid : Prop := lanesPushUptoRow.holds Try.pinned (OpenSpec.upto lanesPushSpec)

/-- 'lockkeeperlaw05.LanesFair', WHERE WHAT IT READS IS OF BULK AT MOST 1048576: true; the input reads as it did. -/
def lanesFairUptoRow : OpenClaim := { program := "ytegfifeichfclaa", sum := "10231af7c28bd1ff234455beb0563d2afc4040d2253bb01a761109e31f3fa253", func := "lockkeeper/lockkeeperlaw05.LanesFair", spec := "lanesFair", unfollowed := true, recurses := true, apart := false, narrowed := true }
def LanesFairUptoSaid : Prop := lanesFairUptoRow.holds Try.pinned (OpenSpec.upto lanesFairSpec)

/-- 'lockkeeperlaw05.LanesStretch', WHERE WHAT IT READS IS OF BULK AT MOST 1048576: true; the input reads as it did. -/
def lanesStretchUptoRow : OpenClaim := { program := "ytegfifeichfclaa", sum := "10231af7c28bd1ff234455beb0563d2afc4040d2253bb01a761109e31f3fa253", func := "lockkeeper/lockkeeperlaw05.LanesStretch", spec := "lanesStretch", unfollowed := true, recurses := true, apart := false, narrowed := true }
def LanesStretchUptoSaid : Prop := lanesStretchUptoRow.holds Try.pinned (OpenSpec.upto lanesStretchSpec)

/-- 'lockkeeperlaw05.LanesAll', WHERE WHAT IT READS IS OF BULK AT MOST 1048576: true; the input reads as it did. -/
def lanesAllUptoRow : OpenClaim := { program := "ytegfifeichfclaa", sum := "10231af7c28bd1ff234455beb0563d2afc4040d2253bb01a761109e31f3fa253", func := "lockkeeper/lockkeeperlaw05.LanesAll", spec := "lanesAll", unfollowed := true, recurses := true, apart := false, narrowed := true }
def LanesAllUptoSaid : Prop := lanesAllUptoRow.holds Try.pinned (OpenSpec.upto lanesAllSpec)

/-- 'lockkeeperlaw05.LanesAlone', WHERE WHAT IT READS IS OF BULK AT MOST 1048576: true; the input reads as it did. -/
def lanesAloneUptoRow : OpenClaim := { program := "ytegfifeichfclaa", sum := "10231af7c28bd1ff234455beb0563d2afc4040d2253bb01a761109e31f3fa253", func := "lockkeeper/lockkeeperlaw05.LanesAlone", spec := "lanesAlone", unfollowed := true, recurses := true, apart := false, narrowed := true }
def LanesAloneUptoSaid : Prop := lanesAloneUptoRow.holds Try.pinned (OpenSpec.upto lanesAloneSpec)

/-- 'lockkeeperlaw05.LanesEqual', WHERE WHAT IT READS IS OF BULK AT MOST 1048576: true; the input reads as it did. -/
def lanesEqualUptoRow : OpenClaim := { program := "ytegfifeichfclaa", sum := "10231af7c28bd1ff234455beb0563d2afc4040d2253bb01a761109e31f3fa253", func := "lockkeeper/lockkeeperlaw05.LanesEqual", spec := "lanesEqual", unfollowed := true, recurses := true, apart := false, narrowed := true }
def LanesEqualUptoSaid : Prop := lanesEqualUptoRow.holds Try.pinned (OpenSpec.upto lanesEqualSpec)

/-- 'lockkeeperlaw05.LanesServed', WHERE WHAT IT READS IS OF BULK AT MOST 1048576: true; the input reads as it did. -/
def lanesServedUptoRow : OpenClaim := { program := "ytegfifeichfclaa", sum := "10231af7c28bd1ff234455beb0563d2afc4040d2253bb01a761109e31f3fa253", func := "lockkeeper/lockkeeperlaw05.LanesServed", spec := "lanesServed", unfollowed := true, recurses := true, apart := false, narrowed := true }
def LanesServedUptoSaid : Prop := lanesServedUptoRow.holds Try.pinned (OpenSpec.upto lanesServedSpec)

end Rows
end Go.Proofs.Ytegfifeichfclaa
