/-
  No cell of these rows narrows 'for every input' (looked for: loops, veiled, ifaces, maps, wideKeys, modest, calm, conditions, laid).
  DERIVED. THE GIVEN ROWS OF THIS SEAT. 7 by the template 'for every input the law returns true; each argument reads behind the call as it read before'; 0 by the template 'total and deterministic' (their statements: YtebbledmaegfpaaTotals.lean).
  GIVEN WITH THE SEED: the statements are not yours to turn. If you find one false, say at which input.
  Laid BY PROGRAM, IN A SANDBOX (cutbox-rows.mjs): the forced cells as the released guide's own fill.sh prints them over the translation 27d4b28000d8d35d… (all of the seat's roots in one cut). By AI agents, Wed Nov 11 2026. No macro, syntax, notation, axiom, sorry.
-/
import Derived.Test.YtebbledmaegfpaaChecked
import GoSem.Claim
import GoSem.ClaimJoined
import GoSem.ClaimMapViews
import Derived.JoinedTies
import Derived.KernelRfl
namespace Go.Proofs.Ytebbledmaegfpaa
/- THE CELL 'sum', in the pinned program and in every row, IS THE sha256 OF THE DUMP (.gsa) THAT YtebbledmaegfpaaProg.lean LOADS. Nothing in Lean hashes anything: it is a label: what it is worth is what the hold of that sum in a sandbox is worth. -/
noncomputable def Try.pinned : Pinned := { name := "ytebbledmaegfpaa", sum := "27d4b28000d8d35de2569f644f9eb0f190dccd2ee504faaea42ac403d3633bd4", checked := Try.checked }
namespace Rows
def none {H : Type} : Left H := { results := [], args := [] }

/-- 'lockkeeperlaw03.DiskNew': WHATEVER THE INPUT: true; the input reads as it did. -/
def diskNewSpec : ChangeSpec := { name := "diskNew", fn := fun _ => fun
  | [d] => { results := [.lit (.bool true)], args := [d] }
  | _ => none }
def diskNewRow : OpenClaim := { program := "ytebbledmaegfpaa", sum := "27d4b28000d8d35de2569f644f9eb0f190dccd2ee504faaea42ac403d3633bd4", func := "lockkeeper/lockkeeperlaw03.DiskNew", spec := "diskNew", inPlace := ["internal/abi.NoEscape", "internal/bytealg.MakeNoZero"], unfollowed := true, recurses := true, apart := false }
def DiskNewSaid : Prop := diskNewRow.holds Try.pinned (OpenSpec.ofChange diskNewSpec)

/-- ITS FALSE NEIGHBOUR: 'it returns false'. Refute it at one input. -/
def diskNewWrong : ChangeSpec := { name := "diskNew", fn := fun _ => fun
  | [d] => { results := [.lit (.bool false)], args := [d] }
  | _ => none }
def DiskNewWrongFalsely : Prop := diskNewRow.holds Try.pinned (OpenSpec.ofChange diskNewWrong)

/-- 'lockkeeperlaw03.DiskOld': WHATEVER THE INPUT: true; the input reads as it did. -/
def diskOldSpec : ChangeSpec := { name := "diskOld", fn := fun _ => fun
  | [d1, d2] => { results := [.lit (.bool true)], args := [d1, d2] }
  | _ => none }
def diskOldRow : OpenClaim := { program := "ytebbledmaegfpaa", sum := "27d4b28000d8d35de2569f644f9eb0f190dccd2ee504faaea42ac403d3633bd4", func := "lockkeeper/lockkeeperlaw03.DiskOld", spec := "diskOld", inPlace := ["internal/abi.NoEscape", "internal/bytealg.MakeNoZero"], unfollowed := true, recurses := true, apart := false }
def DiskOldSaid : Prop := diskOldRow.holds Try.pinned (OpenSpec.ofChange diskOldSpec)

/-- ITS FALSE NEIGHBOUR: 'it returns false'. Refute it at one input. -/
def diskOldWrong : ChangeSpec := { name := "diskOld", fn := fun _ => fun
  | [d1, d2] => { results := [.lit (.bool false)], args := [d1, d2] }
  | _ => none }
def DiskOldWrongFalsely : Prop := diskOldRow.holds Try.pinned (OpenSpec.ofChange diskOldWrong)

/-- 'lockkeeperlaw03.DiskTwice': WHATEVER THE INPUT: true; the input reads as it did. -/
def diskTwiceSpec : ChangeSpec := { name := "diskTwice", fn := fun _ => fun
  | [d1, d2, d3, d4, d5] => { results := [.lit (.bool true)], args := [d1, d2, d3, d4, d5] }
  | _ => none }
def diskTwiceRow : OpenClaim := { program := "ytebbledmaegfpaa", sum := "27d4b28000d8d35de2569f644f9eb0f190dccd2ee504faaea42ac403d3633bd4", func := "lockkeeper/lockkeeperlaw03.DiskTwice", spec := "diskTwice", inPlace := ["internal/abi.NoEscape", "internal/bytealg.MakeNoZero"], unfollowed := true, recurses := true, apart := false }
def DiskTwiceSaid : Prop := diskTwiceRow.holds Try.pinned (OpenSpec.ofChange diskTwiceSpec)

/-- ITS FALSE NEIGHBOUR: 'it returns false'. Refute it at one input. -/
def diskTwiceWrong : ChangeSpec := { name := "diskTwice", fn := fun _ => fun
  | [d1, d2, d3, d4, d5] => { results := [.lit (.bool false)], args := [d1, d2, d3, d4, d5] }
  | _ => none }
def DiskTwiceWrongFalsely : Prop := diskTwiceRow.holds Try.pinned (OpenSpec.ofChange diskTwiceWrong)

/-- 'lockkeeperlaw03.DiskExact': WHATEVER THE INPUT: true; the input reads as it did. -/
def diskExactSpec : ChangeSpec := { name := "diskExact", fn := fun _ => fun
  | [d1, d2, d3, d4] => { results := [.lit (.bool true)], args := [d1, d2, d3, d4] }
  | _ => none }
def diskExactRow : OpenClaim := { program := "ytebbledmaegfpaa", sum := "27d4b28000d8d35de2569f644f9eb0f190dccd2ee504faaea42ac403d3633bd4", func := "lockkeeper/lockkeeperlaw03.DiskExact", spec := "diskExact", inPlace := ["internal/abi.NoEscape", "internal/bytealg.MakeNoZero"], unfollowed := true, recurses := true, apart := false }
def DiskExactSaid : Prop := diskExactRow.holds Try.pinned (OpenSpec.ofChange diskExactSpec)

/-- ITS FALSE NEIGHBOUR: 'it returns false'. Refute it at one input. -/
def diskExactWrong : ChangeSpec := { name := "diskExact", fn := fun _ => fun
  | [d1, d2, d3, d4] => { results := [.lit (.bool false)], args := [d1, d2, d3, d4] }
  | _ => none }
def DiskExactWrongFalsely : Prop := diskExactRow.holds Try.pinned (OpenSpec.ofChange diskExactWrong)

/-- 'lockkeeperlaw03.DiskCalm': WHATEVER THE INPUT: true; the input reads as it did. -/
def diskCalmSpec : ChangeSpec := { name := "diskCalm", fn := fun _ => fun
  | [d1, d2] => { results := [.lit (.bool true)], args := [d1, d2] }
  | _ => none }
def diskCalmRow : OpenClaim := { program := "ytebbledmaegfpaa", sum := "27d4b28000d8d35de2569f644f9eb0f190dccd2ee504faaea42ac403d3633bd4", func := "lockkeeper/lockkeeperlaw03.DiskCalm", spec := "diskCalm", inPlace := ["internal/abi.NoEscape", "internal/bytealg.MakeNoZero"], unfollowed := true, recurses := true, apart := false }
def DiskCalmSaid : Prop := diskCalmRow.holds Try.pinned (OpenSpec.ofChange diskCalmSpec)

/-- ITS FALSE NEIGHBOUR: 'it returns false'. Refute it at one input. -/
def diskCalmWrong : ChangeSpec := { name := "diskCalm", fn := fun _ => fun
  | [d1, d2] => { results := [.lit (.bool false)], args := [d1, d2] }
  | _ => none }
def DiskCalmWrongFalsely : Prop := diskCalmRow.holds Try.pinned (OpenSpec.ofChange diskCalmWrong)

/-- 'lockkeeperlaw03.DiskFull': WHATEVER THE INPUT: true; the input reads as it did. -/
def diskFullSpec : ChangeSpec := { name := "diskFull", fn := fun _ => fun
  | [d] => { results := [.lit (.bool true)], args := [d] }
  | _ => none }
def diskFullRow : OpenClaim := { program := "ytebbledmaegfpaa", sum := "27d4b28000d8d35de2569f644f9eb0f190dccd2ee504faaea42ac403d3633bd4", func := "lockkeeper/lockkeeperlaw03.DiskFull", spec := "diskFull", inPlace := ["internal/abi.NoEscape", "internal/bytealg.MakeNoZero"], unfollowed := true, recurses := true, apart := false }
def DiskFullSaid : Prop := diskFullRow.holds Try.pinned (OpenSpec.ofChange diskFullSpec)

/-- ITS FALSE NEIGHBOUR: 'it returns false'. Refute it at one input. -/
def diskFullWrong : ChangeSpec := { name := "diskFull", fn := fun _ => fun
  | [d] => { results := [.lit (.bool false)], args := [d] }
  | _ => none }
def DiskFullWrongFalsely : Prop := diskFullRow.holds Try.pinned (OpenSpec.ofChange diskFullWrong)

/-- 'lockkeeperlaw03.DiskReads': WHATEVER THE INPUT: true; the input reads as it did. -/
def diskReadsSpec : ChangeSpec := { name := "diskReads", fn := fun _ => fun
  | [d1, d2] => { results := [.lit (.bool true)], args := [d1, d2] }
  | _ => none }
def diskReadsRow : OpenClaim := { program := "ytebbledmaegfpaa", sum := "27d4b28000d8d35de2569f644f9eb0f190dccd2ee504faaea42ac403d3633bd4", func := "lockkeeper/lockkeeperlaw03.DiskReads", spec := "diskReads", inPlace := ["internal/abi.NoEscape", "internal/bytealg.MakeNoZero"], unfollowed := true, recurses := true, apart := false }
def DiskReadsSaid : Prop := diskReadsRow.holds Try.pinned (OpenSpec.ofChange diskReadsSpec)

/-- ITS FALSE NEIGHBOUR: 'it returns false'. Refute it at one input. -/
def diskReadsWrong : ChangeSpec := { name := "diskReads", fn := fun _ => fun
  | [d1, d2] => { results := [.lit (.bool false)], args := [d1, d2] }
  | _ => none }
def DiskReadsWrongFalsely : Prop := diskReadsRow.holds Try.pinned (OpenSpec.ofChange diskReadsWrong)

/- THE SECOND FORM. 'bulk': how many values and letters a reading holds, each counted each time it is reached (what is shared counts as often as it is met; a slice's spare places count too). A statement '..UptoSaid' is the law's where the arguments, and the package variables that the reading takes, are together of bulk at most 1048576: NARROWER than '..Said'. Prove '..Said' where nothing that the law and all that it calls make is longer than what came in: it says more and counts as full. Else prove '..UptoSaid'. A law counts once. -/
mutual
def uptoBulk {H : Type} : DataW H → Nat
  | .lit (.string bytes) => bytes.length + 1
  | .lit _ => 1
  | .nil => 1
  | .ptr d => uptoBulk d + 1
  | .slice elems spare => uptoBulkAll elems + uptoBulkAll spare + 1
  | .agg parts => uptoBulkAll parts + 1
  | .iface _ d => uptoBulk d + 1
  | .map entries => uptoBulkEntries entries + 1
  | .held _ => 1
def uptoBulkAll {H : Type} : List (DataW H) → Nat
  | [] => 0
  | d :: r => uptoBulk d + uptoBulkAll r
def uptoBulkEntries {H : Type} : List (Lit × DataW H) → Nat
  | [] => 0
  | x :: r => uptoBulkEntry x + uptoBulkEntries r
def uptoBulkEntry {H : Type} : Lit × DataW H → Nat
  | (.string bytes, d) => bytes.length + uptoBulk d + 1
  | (_, d) => uptoBulk d + 1
 end
def uptoSmall : (H : Type) → List (DataW H) → Bool := fun _ ds => decide (uptoBulkAll ds ≤ 1048576)
def OpenSpec.upto (s : _root_.Go.ChangeSpec) : _root_.Go.OpenSpec := { _root_.Go.OpenSpec.ofChange s with cond := some uptoSmall }

/-- 'lockkeeperlaw03.DiskNew', WHERE WHAT IT READS IS OF BULK AT MOST 1048576: true; the input reads as it did. -/
def diskNewUptoRow : OpenClaim := { program := "ytebbledmaegfpaa", sum := "27d4b28000d8d35de2569f644f9eb0f190dccd2ee504faaea42ac403d3633bd4", func := "lockkeeper/lockkeeperlaw03.DiskNew", spec := "diskNew", inPlace := ["internal/abi.NoEscape", "internal/bytealg.MakeNoZero"], unfollowed := true, recurses := true, apart := false, narrowed := true }
def DiskNewUptoSaid : Prop := diskNewUptoRow.holds Try.pinned (OpenSpec.upto diskNewSpec)

/-- 'lockkeeperlaw03.DiskOld', WHERE WHAT IT READS IS OF BULK AT MOST 1048576: true; the input reads as it did. -/
def diskOldUptoRow : OpenClaim := { program := "ytebbledmaegfpaa", sum := "27d4b28000d8d35de2569f644f9eb0f190dccd2ee504faaea42ac403d3633bd4", func := "lockkeeper/lockkeeperlaw03.DiskOld", spec := "diskOld", inPlace := ["internal/abi.NoEscape", "internal/bytealg.MakeNoZero"], unfollowed := true, recurses := true, apart := false, narrowed := true }
def DiskOldUptoSaid : Prop := diskOldUptoRow.holds Try.pinned (OpenSpec.upto diskOldSpec)

/-- 'lockkeeperlaw03.DiskTwice', WHERE WHAT IT READS IS OF BULK AT MOST 1048576: true; the input reads as it did. -/
def diskTwiceUptoRow : OpenClaim := { program := "ytebbledmaegfpaa", sum := "27d4b28000d8d35de2569f644f9eb0f190dccd2ee504faaea42ac403d3633bd4", func := "lockkeeper/lockkeeperlaw03.DiskTwice", spec := "diskTwice", inPlace := ["internal/abi.NoEscape", "internal/bytealg.MakeNoZero"], unfollowed := true, recurses := true, apart := false, narrowed := true }
def DiskTwiceUptoSaid : Prop := diskTwiceUptoRow.holds Try.pinned (OpenSpec.upto diskTwiceSpec)

/-- 'lockkeeperlaw03.DiskExact', WHERE WHAT IT READS IS OF BULK AT MOST 1048576: true; the input reads as it did. -/
def diskExactUptoRow : OpenClaim := { program := "ytebbledmaegfpaa", sum := "27d4b28000d8d35de2569f644f9eb0f190dccd2ee504faaea42ac403d3633bd4", func := "lockkeeper/lockkeeperlaw03.DiskExact", spec := "diskExact", inPlace := ["internal/abi.NoEscape", "internal/bytealg.MakeNoZero"], unfollowed := true, recurses := true, apart := false, narrowed := true }
def DiskExactUptoSaid : Prop := diskExactUptoRow.holds Try.pinned (OpenSpec.upto diskExactSpec)

/-- 'lockkeeperlaw03.DiskCalm', WHERE WHAT IT READS IS OF BULK AT MOST 1048576: true; the input reads as it did. -/
def diskCalmUptoRow : OpenClaim := { program := "ytebbledmaegfpaa", sum := "27d4b28000d8d35de2569f644f9eb0f190dccd2ee504faaea42ac403d3633bd4", func := "lockkeeper/lockkeeperlaw03.DiskCalm", spec := "diskCalm", inPlace := ["internal/abi.NoEscape", "internal/bytealg.MakeNoZero"], unfollowed := true, recurses := true, apart := false, narrowed := true }
def DiskCalmUptoSaid : Prop := diskCalmUptoRow.holds Try.pinned (OpenSpec.upto diskCalmSpec)

/-- 'lockkeeperlaw03.DiskFull', WHERE WHAT IT READS IS OF BULK AT MOST 1048576: true; the input reads as it did. -/
def diskFullUptoRow : OpenClaim := { program := "ytebbledmaegfpaa", sum := "27d4b28000d8d35de2569f644f9eb0f190dccd2ee504faaea42ac403d3633bd4", func := "lockkeeper/lockkeeperlaw03.DiskFull", spec := "diskFull", inPlace := ["internal/abi.NoEscape", "internal/bytealg.MakeNoZero"], unfollowed := true, recurses := true, apart := false, narrowed := true }
def DiskFullUptoSaid : Prop := diskFullUptoRow.holds Try.pinned (OpenSpec.upto diskFullSpec)

/-- 'lockkeeperlaw03.DiskReads', WHERE WHAT IT READS IS OF BULK AT MOST 1048576: true; the input reads as it did. -/
def diskReadsUptoRow : OpenClaim := { program := "ytebbledmaegfpaa", sum := "27d4b28000d8d35de2569f644f9eb0f190dccd2ee504faaea42ac403d3633bd4", func := "lockkeeper/lockkeeperlaw03.DiskReads", spec := "diskReads", inPlace := ["internal/abi.NoEscape", "internal/bytealg.MakeNoZero"], unfollowed := true, recurses := true, apart := false, narrowed := true }
def DiskReadsUptoSaid : Prop := diskReadsUptoRow.holds Try.pinned (OpenSpec.upto diskReadsSpec)

end Rows
end Go.Proofs.Ytebbledmaegfpaa
