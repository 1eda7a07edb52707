/-
  No cell of these rows narrows 'for every input' (looked for: loops, veiled, ifaces, maps, wideKeys, modest, calm, conditions, laid).
  DERIVED. THE GIVEN ROWS OF THIS SEAT. 10 by the template 'for every input the law returns true; each argument reads behind the call as it read before'; 0 by the template 'total and deterministic' (their statements: YtaijfhomokkpeaaTotals.lean).
  GIVEN WITH THE SEED: the statements are not yours to turn. If you find one false, say at which input.
  Laid BY PROGRAM, IN A SANDBOX (cutbox-rows.mjs): the forced cells as the released guide's own fill.sh prints them over the translation 3ab7cd5c750da1ef… (all of the seat's roots in one cut). By AI agents, Wed Nov 11 2026. No macro, syntax, notation, axiom, sorry.
-/
import Derived.Test.YtaijfhomokkpeaaChecked
import GoSem.Claim
import GoSem.ClaimJoined
import GoSem.ClaimMapViews
import Derived.JoinedTies
import Derived.KernelRfl
namespace Go.Proofs.Ytaijfhomokkpeaa
/- THE CELL 'sum', in the pinned program and in every row, IS THE sha256 OF THE DUMP (.gsa) THAT YtaijfhomokkpeaaProg.lean LOADS. Nothing in Lean hashes anything: it is a label: what it is worth is what the hold of that sum in a sandbox is worth. -/
noncomputable def Try.pinned : Pinned := { name := "ytaijfhomokkpeaa", sum := "3ab7cd5c750da1ef649b483732d2521951ebf3676793f83ab1eeafe0addf3ba9", checked := Try.checked }
namespace Rows
def none {H : Type} : Left H := { results := [], args := [] }

/-- 'lockkeeperlaw04.DeviceSubmits': WHATEVER THE INPUT: true; the input reads as it did. -/
def deviceSubmitsSpec : ChangeSpec := { name := "deviceSubmits", fn := fun _ => fun
  | [d1, d2, d3, d4] => { results := [.lit (.bool true)], args := [d1, d2, d3, d4] }
  | _ => none }
def deviceSubmitsRow : OpenClaim := { program := "ytaijfhomokkpeaa", sum := "3ab7cd5c750da1ef649b483732d2521951ebf3676793f83ab1eeafe0addf3ba9", func := "lockkeeper/lockkeeperlaw04.DeviceSubmits", spec := "deviceSubmits", inPlace := ["internal/abi.NoEscape", "internal/bytealg.MakeNoZero"], unfollowed := true, recurses := true, apart := false }
def DeviceSubmitsSaid : Prop := deviceSubmitsRow.holds Try.pinned (OpenSpec.ofChange deviceSubmitsSpec)

/-- ITS FALSE NEIGHBOUR: 'it returns false'. Refute it at one input. -/
def deviceSubmitsWrong : ChangeSpec := { name := "deviceSubmits", fn := fun _ => fun
  | [d1, d2, d3, d4] => { results := [.lit (.bool false)], args := [d1, d2, d3, d4] }
  | _ => none }
def DeviceSubmitsWrongFalsely : Prop := deviceSubmitsRow.holds Try.pinned (OpenSpec.ofChange deviceSubmitsWrong)

/-- 'lockkeeperlaw04.DeviceOnce': WHATEVER THE INPUT: true; the input reads as it did. -/
def deviceOnceSpec : ChangeSpec := { name := "deviceOnce", fn := fun _ => fun
  | [d] => { results := [.lit (.bool true)], args := [d] }
  | _ => none }
def deviceOnceRow : OpenClaim := { program := "ytaijfhomokkpeaa", sum := "3ab7cd5c750da1ef649b483732d2521951ebf3676793f83ab1eeafe0addf3ba9", func := "lockkeeper/lockkeeperlaw04.DeviceOnce", spec := "deviceOnce", inPlace := ["internal/abi.NoEscape", "internal/bytealg.MakeNoZero"], unfollowed := true, recurses := true, apart := false }
def DeviceOnceSaid : Prop := deviceOnceRow.holds Try.pinned (OpenSpec.ofChange deviceOnceSpec)

/-- ITS FALSE NEIGHBOUR: 'it returns false'. Refute it at one input. -/
def deviceOnceWrong : ChangeSpec := { name := "deviceOnce", fn := fun _ => fun
  | [d] => { results := [.lit (.bool false)], args := [d] }
  | _ => none }
def DeviceOnceWrongFalsely : Prop := deviceOnceRow.holds Try.pinned (OpenSpec.ofChange deviceOnceWrong)

/-- 'lockkeeperlaw04.DeviceFault': WHATEVER THE INPUT: true; the input reads as it did. -/
def deviceFaultSpec : ChangeSpec := { name := "deviceFault", fn := fun _ => fun
  | [d1, d2] => { results := [.lit (.bool true)], args := [d1, d2] }
  | _ => none }
def deviceFaultRow : OpenClaim := { program := "ytaijfhomokkpeaa", sum := "3ab7cd5c750da1ef649b483732d2521951ebf3676793f83ab1eeafe0addf3ba9", func := "lockkeeper/lockkeeperlaw04.DeviceFault", spec := "deviceFault", inPlace := ["internal/abi.NoEscape", "internal/bytealg.MakeNoZero"], unfollowed := true, recurses := true, apart := false }
def DeviceFaultSaid : Prop := deviceFaultRow.holds Try.pinned (OpenSpec.ofChange deviceFaultSpec)

/-- ITS FALSE NEIGHBOUR: 'it returns false'. Refute it at one input. -/
def deviceFaultWrong : ChangeSpec := { name := "deviceFault", fn := fun _ => fun
  | [d1, d2] => { results := [.lit (.bool false)], args := [d1, d2] }
  | _ => none }
def DeviceFaultWrongFalsely : Prop := deviceFaultRow.holds Try.pinned (OpenSpec.ofChange deviceFaultWrong)

/-- 'lockkeeperlaw04.DeviceOrder': WHATEVER THE INPUT: true; the input reads as it did. -/
def deviceOrderSpec : ChangeSpec := { name := "deviceOrder", fn := fun _ => fun
  | [d1, d2] => { results := [.lit (.bool true)], args := [d1, d2] }
  | _ => none }
def deviceOrderRow : OpenClaim := { program := "ytaijfhomokkpeaa", sum := "3ab7cd5c750da1ef649b483732d2521951ebf3676793f83ab1eeafe0addf3ba9", func := "lockkeeper/lockkeeperlaw04.DeviceOrder", spec := "deviceOrder", inPlace := ["internal/abi.NoEscape", "internal/bytealg.MakeNoZero"], unfollowed := true, recurses := true, apart := false }
def DeviceOrderSaid : Prop := deviceOrderRow.holds Try.pinned (OpenSpec.ofChange deviceOrderSpec)

/-- ITS FALSE NEIGHBOUR: 'it returns false'. Refute it at one input. -/
def deviceOrderWrong : ChangeSpec := { name := "deviceOrder", fn := fun _ => fun
  | [d1, d2] => { results := [.lit (.bool false)], args := [d1, d2] }
  | _ => none }
def DeviceOrderWrongFalsely : Prop := deviceOrderRow.holds Try.pinned (OpenSpec.ofChange deviceOrderWrong)

/-- 'lockkeeperlaw04.DeviceFinishes': WHATEVER THE INPUT: true; the input reads as it did. -/
def deviceFinishesSpec : ChangeSpec := { name := "deviceFinishes", fn := fun _ => fun
  | [d1, d2, d3, d4] => { results := [.lit (.bool true)], args := [d1, d2, d3, d4] }
  | _ => none }
def deviceFinishesRow : OpenClaim := { program := "ytaijfhomokkpeaa", sum := "3ab7cd5c750da1ef649b483732d2521951ebf3676793f83ab1eeafe0addf3ba9", func := "lockkeeper/lockkeeperlaw04.DeviceFinishes", spec := "deviceFinishes", inPlace := ["internal/abi.NoEscape", "internal/bytealg.MakeNoZero"], unfollowed := true, recurses := true, apart := false }
def DeviceFinishesSaid : Prop := deviceFinishesRow.holds Try.pinned (OpenSpec.ofChange deviceFinishesSpec)

/-- ITS FALSE NEIGHBOUR: 'it returns false'. Refute it at one input. -/
def deviceFinishesWrong : ChangeSpec := { name := "deviceFinishes", fn := fun _ => fun
  | [d1, d2, d3, d4] => { results := [.lit (.bool false)], args := [d1, d2, d3, d4] }
  | _ => none }
def DeviceFinishesWrongFalsely : Prop := deviceFinishesRow.holds Try.pinned (OpenSpec.ofChange deviceFinishesWrong)

/-- 'lockkeeperlaw06.SchedOnce': WHATEVER THE INPUT: true; the input reads as it did. -/
def schedOnceSpec : ChangeSpec := { name := "schedOnce", fn := fun _ => fun
  | [d] => { results := [.lit (.bool true)], args := [d] }
  | _ => none }
def schedOnceRow : OpenClaim := { program := "ytaijfhomokkpeaa", sum := "3ab7cd5c750da1ef649b483732d2521951ebf3676793f83ab1eeafe0addf3ba9", func := "lockkeeper/lockkeeperlaw06.SchedOnce", spec := "schedOnce", inPlace := ["internal/abi.NoEscape", "internal/bytealg.MakeNoZero"], unfollowed := true, recurses := true, apart := false }
def SchedOnceSaid : Prop := schedOnceRow.holds Try.pinned (OpenSpec.ofChange schedOnceSpec)

/-- ITS FALSE NEIGHBOUR: 'it returns false'. Refute it at one input. -/
def schedOnceWrong : ChangeSpec := { name := "schedOnce", fn := fun _ => fun
  | [d] => { results := [.lit (.bool false)], args := [d] }
  | _ => none }
def SchedOnceWrongFalsely : Prop := schedOnceRow.holds Try.pinned (OpenSpec.ofChange schedOnceWrong)

/-- 'lockkeeperlaw06.SchedDrains': WHATEVER THE INPUT: true; the input reads as it did. -/
def schedDrainsSpec : ChangeSpec := { name := "schedDrains", fn := fun _ => fun
  | [d] => { results := [.lit (.bool true)], args := [d] }
  | _ => none }
def schedDrainsRow : OpenClaim := { program := "ytaijfhomokkpeaa", sum := "3ab7cd5c750da1ef649b483732d2521951ebf3676793f83ab1eeafe0addf3ba9", func := "lockkeeper/lockkeeperlaw06.SchedDrains", spec := "schedDrains", inPlace := ["internal/abi.NoEscape", "internal/bytealg.MakeNoZero"], unfollowed := true, recurses := true, apart := false }
def SchedDrainsSaid : Prop := schedDrainsRow.holds Try.pinned (OpenSpec.ofChange schedDrainsSpec)

/-- ITS FALSE NEIGHBOUR: 'it returns false'. Refute it at one input. -/
def schedDrainsWrong : ChangeSpec := { name := "schedDrains", fn := fun _ => fun
  | [d] => { results := [.lit (.bool false)], args := [d] }
  | _ => none }
def SchedDrainsWrongFalsely : Prop := schedDrainsRow.holds Try.pinned (OpenSpec.ofChange schedDrainsWrong)

/-- 'lockkeeperlaw06.SchedFull': WHATEVER THE INPUT: true; the input reads as it did. -/
def schedFullSpec : ChangeSpec := { name := "schedFull", fn := fun _ => fun
  | [d] => { results := [.lit (.bool true)], args := [d] }
  | _ => none }
def schedFullRow : OpenClaim := { program := "ytaijfhomokkpeaa", sum := "3ab7cd5c750da1ef649b483732d2521951ebf3676793f83ab1eeafe0addf3ba9", func := "lockkeeper/lockkeeperlaw06.SchedFull", spec := "schedFull", inPlace := ["internal/abi.NoEscape", "internal/bytealg.MakeNoZero"], unfollowed := true, recurses := true, apart := false }
def SchedFullSaid : Prop := schedFullRow.holds Try.pinned (OpenSpec.ofChange schedFullSpec)

/-- ITS FALSE NEIGHBOUR: 'it returns false'. Refute it at one input. -/
def schedFullWrong : ChangeSpec := { name := "schedFull", fn := fun _ => fun
  | [d] => { results := [.lit (.bool false)], args := [d] }
  | _ => none }
def SchedFullWrongFalsely : Prop := schedFullRow.holds Try.pinned (OpenSpec.ofChange schedFullWrong)

/-- 'lockkeeperlaw06.SchedActs': WHATEVER THE INPUT: true; the input reads as it did. -/
def schedActsSpec : ChangeSpec := { name := "schedActs", fn := fun _ => fun
  | [d1, d2] => { results := [.lit (.bool true)], args := [d1, d2] }
  | _ => none }
def schedActsRow : OpenClaim := { program := "ytaijfhomokkpeaa", sum := "3ab7cd5c750da1ef649b483732d2521951ebf3676793f83ab1eeafe0addf3ba9", func := "lockkeeper/lockkeeperlaw06.SchedActs", spec := "schedActs", inPlace := ["internal/abi.NoEscape", "internal/bytealg.MakeNoZero"], unfollowed := true, recurses := true, apart := false }
def SchedActsSaid : Prop := schedActsRow.holds Try.pinned (OpenSpec.ofChange schedActsSpec)

/-- ITS FALSE NEIGHBOUR: 'it returns false'. Refute it at one input. -/
def schedActsWrong : ChangeSpec := { name := "schedActs", fn := fun _ => fun
  | [d1, d2] => { results := [.lit (.bool false)], args := [d1, d2] }
  | _ => none }
def SchedActsWrongFalsely : Prop := schedActsRow.holds Try.pinned (OpenSpec.ofChange schedActsWrong)

/-- 'lockkeeperlaw06.SchedCrash': WHATEVER THE INPUT: true; the input reads as it did. -/
def schedCrashSpec : ChangeSpec := { name := "schedCrash", fn := fun _ => fun
  | [d1, d2] => { results := [.lit (.bool true)], args := [d1, d2] }
  | _ => none }
def schedCrashRow : OpenClaim := { program := "ytaijfhomokkpeaa", sum := "3ab7cd5c750da1ef649b483732d2521951ebf3676793f83ab1eeafe0addf3ba9", func := "lockkeeper/lockkeeperlaw06.SchedCrash", spec := "schedCrash", inPlace := ["internal/abi.NoEscape", "internal/bytealg.MakeNoZero"], unfollowed := true, recurses := true, apart := false }
def SchedCrashSaid : Prop := schedCrashRow.holds Try.pinned (OpenSpec.ofChange schedCrashSpec)

/-- ITS FALSE NEIGHBOUR: 'it returns false'. Refute it at one input. -/
def schedCrashWrong : ChangeSpec := { name := "schedCrash", fn := fun _ => fun
  | [d1, d2] => { results := [.lit (.bool false)], args := [d1, d2] }
  | _ => none }
def SchedCrashWrongFalsely : Prop := schedCrashRow.holds Try.pinned (OpenSpec.ofChange schedCrashWrong)

/- THE SECOND FORM. 'bulk': how many values and letters a reading holds, each counted each time it is reached (what is shared counts as often as it is met; a slice's spare places count too). A statement '..UptoSaid' is the law's where the arguments, and the package variables that the reading takes, are together of bulk at most 1048576: NARROWER than '..Said'. Prove '..Said' where nothing that the law and all that it calls make is longer than what came in: it says more and counts as full. Else prove '..UptoSaid'. A law counts once. -/
mutual
def uptoBulk {H : Type} : DataW H → Nat
  | .lit (.string bytes) => bytes.length + 1
  | .lit _ => 1
  | .nil => 1
  | .ptr d => uptoBulk d + 1
  | .slice elems spare => uptoBulkAll elems + uptoBulkAll spare + 1
  | .agg parts => uptoBulkAll parts + 1
  | .iface _ d => uptoBulk d + 1
  | .map entries => uptoBulkEntries entries + 1
  | .held _ => 1
def uptoBulkAll {H : Type} : List (DataW H) → Nat
  | [] => 0
  | d :: r => uptoBulk d + uptoBulkAll r
def uptoBulkEntries {H : Type} : List (Lit × DataW H) → Nat
  | [] => 0
  | x :: r => uptoBulkEntry x + uptoBulkEntries r
def uptoBulkEntry {H : Type} : Lit × DataW H → Nat
  | (.string bytes, d) => bytes.length + uptoBulk d + 1
  | (_, d) => uptoBulk d + 1
 end
def uptoSmall : (H : Type) → List (DataW H) → Bool := fun _ ds => decide (uptoBulkAll ds ≤ 1048576)
def OpenSpec.upto (s : _root_.Go.ChangeSpec) : _root_.Go.OpenSpec := { _root_.Go.OpenSpec.ofChange s with cond := some uptoSmall }

/-- 'lockkeeperlaw04.DeviceSubmits', WHERE WHAT IT READS IS OF BULK AT MOST 1048576: true; the input reads as it did. -/
def deviceSubmitsUptoRow : OpenClaim := { program := "ytaijfhomokkpeaa", sum := "3ab7cd5c750da1ef649b483732d2521951ebf3676793f83ab1eeafe0addf3ba9", func := "lockkeeper/lockkeeperlaw04.DeviceSubmits", spec := "deviceSubmits", inPlace := ["internal/abi.NoEscape", "internal/bytealg.MakeNoZero"], unfollowed := true, recurses := true, apart := false, narrowed := true }
def DeviceSubmitsUptoSaid : Prop := deviceSubmitsUptoRow.holds Try.pinned (OpenSpec.upto deviceSubmitsSpec)

/-- 'lockkeeperlaw04.DeviceOnce', WHERE WHAT IT READS IS OF BULK AT MOST 1048576: true; the input reads as it did. -/
def deviceOnceUptoRow : OpenClaim := { program := "ytaijfhomokkpeaa", sum := "3ab7cd5c750da1ef649b483732d2521951ebf3676793f83ab1eeafe0addf3ba9", func := "lockkeeper/lockkeeperlaw04.DeviceOnce", spec := "deviceOnce", inPlace := ["internal/abi.NoEscape", "internal/bytealg.MakeNoZero"], unfollowed := true, recurses := true, apart := false, narrowed := true }
def DeviceOnceUptoSaid : Prop := deviceOnceUptoRow.holds Try.pinned (OpenSpec.upto deviceOnceSpec)

/-- 'lockkeeperlaw04.DeviceFault', WHERE WHAT IT READS IS OF BULK AT MOST 1048576: true; the input reads as it did. -/
def deviceFaultUptoRow : OpenClaim := { program := "ytaijfhomokkpeaa", sum := "3ab7cd5c750da1ef649b483732d2521951ebf3676793f83ab1eeafe0addf3ba9", func := "lockkeeper/lockkeeperlaw04.DeviceFault", spec := "deviceFault", inPlace := ["internal/abi.NoEscape", "internal/bytealg.MakeNoZero"], unfollowed := true, recurses := true, apart := false, narrowed := true }
def DeviceFaultUptoSaid : Prop := deviceFaultUptoRow.holds Try.pinned (OpenSpec.upto deviceFaultSpec)

/-- 'lockkeeperlaw04.DeviceOrder', WHERE WHAT IT READS IS OF BULK AT MOST 1048576: true; the input reads as it did. -/
def deviceOrderUptoRow : OpenClaim := { program := "ytaijfhomokkpeaa", sum := "3ab7cd5c750da1ef649b483732d2521951ebf3676793f83ab1eeafe0addf3ba9", func := "lockkeeper/lockkeeperlaw04.DeviceOrder", spec := "deviceOrder", inPlace := ["internal/abi.NoEscape", "internal/bytealg.MakeNoZero"], unfollowed := true, recurses := true, apart := false, narrowed := true }
def DeviceOrderUptoSaid : Prop := deviceOrderUptoRow.holds Try.pinned (OpenSpec.upto deviceOrderSpec)

/-- 'lockkeeperlaw04.DeviceFinishes', WHERE WHAT IT READS IS OF BULK AT MOST 1048576: true; the input reads as it did. -/
def deviceFinishesUptoRow : OpenClaim := { program := "ytaijfhomokkpeaa", sum := "3ab7cd5c750da1ef649b483732d2521951ebf3676793f83ab1eeafe0addf3ba9", func := "lockkeeper/lockkeeperlaw04.DeviceFinishes", spec := "deviceFinishes", inPlace := ["internal/abi.NoEscape", "internal/bytealg.MakeNoZero"], unfollowed := true, recurses := true, apart := false, narrowed := true }
def DeviceFinishesUptoSaid : Prop := deviceFinishesUptoRow.holds Try.pinned (OpenSpec.upto deviceFinishesSpec)

/-- 'lockkeeperlaw06.SchedOnce', WHERE WHAT IT READS IS OF BULK AT MOST 1048576: true; the input reads as it did. -/
def schedOnceUptoRow : OpenClaim := { program := "ytaijfhomokkpeaa", sum := "3ab7cd5c750da1ef649b483732d2521951ebf3676793f83ab1eeafe0addf3ba9", func := "lockkeeper/lockkeeperlaw06.SchedOnce", spec := "schedOnce", inPlace := ["internal/abi.NoEscape", "internal/bytealg.MakeNoZero"], unfollowed := true, recurses := true, apart := false, narrowed := true }
def SchedOnceUptoSaid : Prop := schedOnceUptoRow.holds Try.pinned (OpenSpec.upto schedOnceSpec)

/-- 'lockkeeperlaw06.SchedDrains', WHERE WHAT IT READS IS OF BULK AT MOST 1048576: true; the input reads as it did. -/
def schedDrainsUptoRow : OpenClaim := { program := "ytaijfhomokkpeaa", sum := "3ab7cd5c750da1ef649b483732d2521951ebf3676793f83ab1eeafe0addf3ba9", func := "lockkeeper/lockkeeperlaw06.SchedDrains", spec := "schedDrains", inPlace := ["internal/abi.NoEscape", "internal/bytealg.MakeNoZero"], unfollowed := true, recurses := true, apart := false, narrowed := true }
def SchedDrainsUptoSaid : Prop := schedDrainsUptoRow.holds Try.pinned (OpenSpec.upto schedDrainsSpec)

/-- 'lockkeeperlaw06.SchedFull', WHERE WHAT IT READS IS OF BULK AT MOST 1048576: true; the input reads as it did. -/
def schedFullUptoRow : OpenClaim := { program := "ytaijfhomokkpeaa", sum := "3ab7cd5c750da1ef649b483732d2521951ebf3676793f83ab1eeafe0addf3ba9", func := "lockkeeper/lockkeeperlaw06.SchedFull", spec := "schedFull", inPlace := ["internal/abi.NoEscape", "internal/bytealg.MakeNoZero"], unfollowed := true, recurses := true, apart := false, narrowed := true }
def SchedFullUptoSaid : Prop := schedFullUptoRow.holds Try.pinned (OpenSpec.upto schedFullSpec)

/-- 'lockkeeperlaw06.SchedActs', WHERE WHAT IT READS IS OF BULK AT MOST 1048576: true; the input reads as it did. -/
def schedActsUptoRow : OpenClaim := { program := "ytaijfhomokkpeaa", sum := "3ab7cd5c750da1ef649b483732d2521951ebf3676793f83ab1eeafe0addf3ba9", func := "lockkeeper/lockkeeperlaw06.SchedActs", spec := "schedActs", inPlace := ["internal/abi.NoEscape", "internal/bytealg.MakeNoZero"], unfollowed := true, recurses := true, apart := false, narrowed := true }
def SchedActsUptoSaid : Prop := schedActsUptoRow.holds Try.pinned (OpenSpec.upto schedActsSpec)

/-- 'lockkeeperlaw06.SchedCrash', WHERE WHAT IT READS IS OF BULK AT MOST 1048576: true; the input reads as it did. -/
def schedCrashUptoRow : OpenClaim := { program := "ytaijfhomokkpeaa", sum := "3ab7cd5c750da1ef649b483732d2521951ebf3676793f83ab1eeafe0addf3ba9", func := "lockkeeper/lockkeeperlaw06.SchedCrash", spec := "schedCrash", inPlace := ["internal/abi.NoEscape", "internal/bytealg.MakeNoZero"], unfollowed := true, recurses := true, apart := false, narrowed := true }
def SchedCrashUptoSaid : Prop := schedCrashUptoRow.holds Try.pinned (OpenSpec.upto schedCrashSpec)

end Rows
end Go.Proofs.Ytaijfhomokkpeaa
