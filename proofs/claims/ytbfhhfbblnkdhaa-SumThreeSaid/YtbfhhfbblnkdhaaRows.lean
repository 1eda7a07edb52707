/-
  No cell of these rows narrows 'for every input' (looked for: loops, veiled, ifaces, maps, wideKeys, modest, calm, conditions, laid).
  DERIVED. THE GIVEN ROWS OF THIS SEAT. 5 by the template 'for every input the law returns true; each argument reads behind the call as it read before'; 0 by the template 'total and deterministic' (their statements: YtbfhhfbblnkdhaaTotals.lean).
  GIVEN WITH THE SEED: the statements are not yours to turn. If you find one false, say at which input.
  Laid BY PROGRAM, IN A SANDBOX (cutbox-rows.mjs): the forced cells as the released guide's own fill.sh prints them over the translation 366c95ff2082a865… (all of the seat's roots in one cut). By AI agents, Wed Nov 11 2026. No macro, syntax, notation, axiom, sorry.
-/
import Derived.Test.YtbfhhfbblnkdhaaChecked
import GoSem.Claim
import GoSem.ClaimJoined
import GoSem.ClaimMapViews
import Derived.JoinedTies
import Derived.KernelRfl
namespace Go.Proofs.Ytbfhhfbblnkdhaa
/- THE CELL 'sum', in the pinned program and in every row, IS THE sha256 OF THE DUMP (.gsa) THAT YtbfhhfbblnkdhaaProg.lean LOADS. Nothing in Lean hashes anything: it is a label: what it is worth is what the hold of that sum in a sandbox is worth. -/
noncomputable def Try.pinned : Pinned := { name := "ytbfhhfbblnkdhaa", sum := "366c95ff2082a865ba541ffb80de6712ce2a07926ebea4d3d5a4299783e250e1", checked := Try.checked }
namespace Rows
def none {H : Type} : Left H := { results := [], args := [] }

/-- 'lockkeeperlaw01.SumTable': WHATEVER THE INPUT: true; the input reads as it did. -/
def sumTableSpec : ChangeSpec := { name := "sumTable", fn := fun _ => fun
  | [d] => { results := [.lit (.bool true)], args := [d] }
  | _ => none }
def sumTableRow : OpenClaim := { program := "ytbfhhfbblnkdhaa", sum := "366c95ff2082a865ba541ffb80de6712ce2a07926ebea4d3d5a4299783e250e1", func := "lockkeeper/lockkeeperlaw01.SumTable", spec := "sumTable", apart := false }
def SumTableSaid : Prop := sumTableRow.holds Try.pinned (OpenSpec.ofChange sumTableSpec)

/-- ITS FALSE NEIGHBOUR: 'it returns false'. Refute it at one input. -/
def sumTableWrong : ChangeSpec := { name := "sumTable", fn := fun _ => fun
  | [d] => { results := [.lit (.bool false)], args := [d] }
  | _ => none }
def SumTableWrongFalsely : Prop := sumTableRow.holds Try.pinned (OpenSpec.ofChange sumTableWrong)

/-- 'lockkeeperlaw01.SumBit': WHATEVER THE INPUT: true; the input reads as it did. -/
def sumBitSpec : ChangeSpec := { name := "sumBit", fn := fun _ => fun
  | [d1, d2, d3] => { results := [.lit (.bool true)], args := [d1, d2, d3] }
  | _ => none }
def sumBitRow : OpenClaim := { program := "ytbfhhfbblnkdhaa", sum := "366c95ff2082a865ba541ffb80de6712ce2a07926ebea4d3d5a4299783e250e1", func := "lockkeeper/lockkeeperlaw01.SumBit", spec := "sumBit", apart := false }
def SumBitSaid : Prop := sumBitRow.holds Try.pinned (OpenSpec.ofChange sumBitSpec)

/-- ITS FALSE NEIGHBOUR: 'it returns false'. Refute it at one input. -/
def sumBitWrong : ChangeSpec := { name := "sumBit", fn := fun _ => fun
  | [d1, d2, d3] => { results := [.lit (.bool false)], args := [d1, d2, d3] }
  | _ => none }
def SumBitWrongFalsely : Prop := sumBitRow.holds Try.pinned (OpenSpec.ofChange sumBitWrong)

/-- 'lockkeeperlaw01.SumThree': WHATEVER THE INPUT: true; the input reads as it did. -/
def sumThreeSpec : ChangeSpec := { name := "sumThree", fn := fun _ => fun
  | [d1, d2, d3] => { results := [.lit (.bool true)], args := [d1, d2, d3] }
  | _ => none }
def sumThreeRow : OpenClaim := { program := "ytbfhhfbblnkdhaa", sum := "366c95ff2082a865ba541ffb80de6712ce2a07926ebea4d3d5a4299783e250e1", func := "lockkeeper/lockkeeperlaw01.SumThree", spec := "sumThree", apart := false }
def SumThreeSaid : Prop := sumThreeRow.holds Try.pinned (OpenSpec.ofChange sumThreeSpec)

/-- ITS FALSE NEIGHBOUR: 'it returns false'. Refute it at one input. -/
def sumThreeWrong : ChangeSpec := { name := "sumThree", fn := fun _ => fun
  | [d1, d2, d3] => { results := [.lit (.bool false)], args := [d1, d2, d3] }
  | _ => none }
def SumThreeWrongFalsely : Prop := sumThreeRow.holds Try.pinned (OpenSpec.ofChange sumThreeWrong)

/-- 'lockkeeperlaw01.SumNought': WHATEVER THE INPUT: true; the input reads as it did. -/
def sumNoughtSpec : ChangeSpec := { name := "sumNought", fn := fun _ => fun
  | [d] => { results := [.lit (.bool true)], args := [d] }
  | _ => none }
def sumNoughtRow : OpenClaim := { program := "ytbfhhfbblnkdhaa", sum := "366c95ff2082a865ba541ffb80de6712ce2a07926ebea4d3d5a4299783e250e1", func := "lockkeeper/lockkeeperlaw01.SumNought", spec := "sumNought", apart := false }
def SumNoughtSaid : Prop := sumNoughtRow.holds Try.pinned (OpenSpec.ofChange sumNoughtSpec)

/-- ITS FALSE NEIGHBOUR: 'it returns false'. Refute it at one input. -/
def sumNoughtWrong : ChangeSpec := { name := "sumNought", fn := fun _ => fun
  | [d] => { results := [.lit (.bool false)], args := [d] }
  | _ => none }
def SumNoughtWrongFalsely : Prop := sumNoughtRow.holds Try.pinned (OpenSpec.ofChange sumNoughtWrong)

/-- 'lockkeeperlaw01.SumLast': WHATEVER THE INPUT: true; the input reads as it did. -/
def sumLastSpec : ChangeSpec := { name := "sumLast", fn := fun _ => fun
  | [d1, d2, d3] => { results := [.lit (.bool true)], args := [d1, d2, d3] }
  | _ => none }
def sumLastRow : OpenClaim := { program := "ytbfhhfbblnkdhaa", sum := "366c95ff2082a865ba541ffb80de6712ce2a07926ebea4d3d5a4299783e250e1", func := "lockkeeper/lockkeeperlaw01.SumLast", spec := "sumLast", apart := false }
def SumLastSaid : Prop := sumLastRow.holds Try.pinned (OpenSpec.ofChange sumLastSpec)

/-- ITS FALSE NEIGHBOUR: 'it returns false'. Refute it at one input. -/
def sumLastWrong : ChangeSpec := { name := "sumLast", fn := fun _ => fun
  | [d1, d2, d3] => { results := [.lit (.bool false)], args := [d1, d2, d3] }
  | _ => none }
def SumLastWrongFalsely : Prop := sumLastRow.holds Try.pinned (OpenSpec.ofChange sumLastWrong)

/- THE SECOND FORM. 'bulk': how many values and letters a reading holds, each counted each time it is reached (what is shared counts as often as it is met; a slice's spare places count too). A statement '..UptoSaid' is the law's where the arguments, and the package variables that the reading takes, are together of bulk at most 1048576: NARROWER than '..Said'. Prove '..Said' where nothing that the law and all that it calls make is longer than what came in: it says more and counts as full. Else prove '..UptoSaid'. A law counts once. -/
mutual
def uptoBulk {H : Type} : DataW H → Nat
  | .lit (.string bytes) => bytes.length + 1
  | .lit _ => 1
  | .nil => 1
  | .ptr d => uptoBulk d + 1
  | .slice elems spare => uptoBulkAll elems + uptoBulkAll spare + 1
  | .agg parts => uptoBulkAll parts + 1
  | .iface _ d => uptoBulk d + 1
  | .map entries => uptoBulkEntries entries + 1
  | .held _ => 1
def uptoBulkAll {H : Type} : List (DataW H) → Nat
  | [] => 0
  | d :: r => uptoBulk d + uptoBulkAll r
def uptoBulkEntries {H : Type} : List (Lit × DataW H) → Nat
  | [] => 0
  | x :: r => uptoBulkEntry x + uptoBulkEntries r
def uptoBulkEntry {H : Type} : Lit × DataW H → Nat
  | (.string bytes, d) => bytes.length + uptoBulk d + 1
  | (_, d) => uptoBulk d + 1
 end
def uptoSmall : (H : Type) → List (DataW H) → Bool := fun _ ds => decide (uptoBulkAll ds ≤ 1048576)
def OpenSpec.upto (s : _root_.Go.ChangeSpec) : _root_.Go.OpenSpec := { _root_.Go.OpenSpec.ofChange s with cond := some uptoSmall }

/-- 'lockkeeperlaw01.SumTable', WHERE WHAT IT READS IS OF BULK AT MOST 1048576: true; the input reads as it did. -/
def sumTableUptoRow : OpenClaim := { program := "ytbfhhfbblnkdhaa", sum := "366c95ff2082a865ba541ffb80de6712ce2a07926ebea4d3d5a4299783e250e1", func := "lockkeeper/lockkeeperlaw01.SumTable", spec := "sumTable", apart := false, narrowed := true }
def SumTableUptoSaid : Prop := sumTableUptoRow.holds Try.pinned (OpenSpec.upto sumTableSpec)

/-- 'lockkeeperlaw01.SumBit', WHERE WHAT IT READS IS OF BULK AT MOST 1048576: true; the input reads as it did. -/
def sumBitUptoRow : OpenClaim := { program := "ytbfhhfbblnkdhaa", sum := "366c95ff2082a865ba541ffb80de6712ce2a07926ebea4d3d5a4299783e250e1", func := "lockkeeper/lockkeeperlaw01.SumBit", spec := "sumBit", apart := false, narrowed := true }
def SumBitUptoSaid : Prop := sumBitUptoRow.holds Try.pinned (OpenSpec.upto sumBitSpec)

/-- 'lockkeeperlaw01.SumThree', WHERE WHAT IT READS IS OF BULK AT MOST 1048576: true; the input reads as it did. -/
def sumThreeUptoRow : OpenClaim := { program := "ytbfhhfbblnkdhaa", sum := "366c95ff2082a865ba541ffb80de6712ce2a07926ebea4d3d5a4299783e250e1", func := "lockkeeper/lockkeeperlaw01.SumThree", spec := "sumThree", apart := false, narrowed := true }
def SumThreeUptoSaid : Prop := sumThreeUptoRow.holds Try.pinned (OpenSpec.upto sumThreeSpec)

/-- 'lockkeeperlaw01.SumNought', WHERE WHAT IT READS IS OF BULK AT MOST 1048576: true; the input reads as it did. -/
def sumNoughtUptoRow : OpenClaim := { program := "ytbfhhfbblnkdhaa", sum := "366c95ff2082a865ba541ffb80de6712ce2a07926ebea4d3d5a4299783e250e1", func := "lockkeeper/lockkeeperlaw01.SumNought", spec := "sumNought", apart := false, narrowed := true }
def SumNoughtUptoSaid : Prop := sumNoughtUptoRow.holds Try.pinned (OpenSpec.upto sumNoughtSpec)

/-- 'lockkeeperlaw01.SumLast', WHERE WHAT IT READS IS OF BULK AT MOST 1048576: true; the input reads as it did. -/
def sumLastUptoRow : OpenClaim := { program := "ytbfhhfbblnkdhaa", sum := "366c95ff2082a865ba541ffb80de6712ce2a07926ebea4d3d5a4299783e250e1", func := "lockkeeper/lockkeeperlaw01.SumLast", spec := "sumLast", apart := false, narrowed := true }
def SumLastUptoSaid : Prop := sumLastUptoRow.holds Try.pinned (OpenSpec.upto sumLastSpec)

end Rows
end Go.Proofs.Ytbfhhfbblnkdhaa
