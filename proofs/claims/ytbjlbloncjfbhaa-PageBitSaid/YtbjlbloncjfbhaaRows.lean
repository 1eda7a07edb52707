/-
  No cell of these rows narrows 'for every input' (looked for: loops, veiled, ifaces, maps, wideKeys, modest, calm, conditions, laid).
  DERIVED. THE GIVEN ROWS OF THIS SEAT. 7 by the template 'for every input the law returns true; each argument reads behind the call as it read before'; 0 by the template 'total and deterministic' (their statements: YtbjlbloncjfbhaaTotals.lean).
  GIVEN WITH THE SEED: the statements are not yours to turn. If you find one false, say at which input.
  Laid BY PROGRAM, IN A SANDBOX (cutbox-rows.mjs): the forced cells as the released guide's own fill.sh prints them over the translation cad67c722ace2063… (all of the seat's roots in one cut). By AI agents, Wed Nov 11 2026. No macro, syntax, notation, axiom, sorry.
-/
import Derived.Test.YtbjlbloncjfbhaaChecked
import GoSem.Claim
import GoSem.ClaimJoined
import GoSem.ClaimMapViews
import Derived.JoinedTies
import Derived.KernelRfl
namespace Go.Proofs.Ytbjlbloncjfbhaa
/- THE CELL 'sum', in the pinned program and in every row, IS THE sha256 OF THE DUMP (.gsa) THAT YtbjlbloncjfbhaaProg.lean LOADS. Nothing in Lean hashes anything: it is a label: what it is worth is what the hold of that sum in a sandbox is worth. -/
noncomputable def Try.pinned : Pinned := { name := "ytbjlbloncjfbhaa", sum := "cad67c722ace2063f17e64e8cfaeeb49c6ed71ba0b2892be2c3d768a71d464ab", checked := Try.checked }
namespace Rows
def none {H : Type} : Left H := { results := [], args := [] }

/-- 'lockkeeperlaw02.PagePuts': WHATEVER THE INPUT: true; the input reads as it did. -/
def pagePutsSpec : ChangeSpec := { name := "pagePuts", fn := fun _ => fun
  | [d] => { results := [.lit (.bool true)], args := [d] }
  | _ => none }
def pagePutsRow : OpenClaim := { program := "ytbjlbloncjfbhaa", sum := "cad67c722ace2063f17e64e8cfaeeb49c6ed71ba0b2892be2c3d768a71d464ab", func := "lockkeeper/lockkeeperlaw02.PagePuts", spec := "pagePuts", inPlace := ["internal/abi.NoEscape", "internal/bytealg.MakeNoZero"], apart := false }
def PagePutsSaid : Prop := pagePutsRow.holds Try.pinned (OpenSpec.ofChange pagePutsSpec)

/-- ITS FALSE NEIGHBOUR: 'it returns false'. Refute it at one input. -/
def pagePutsWrong : ChangeSpec := { name := "pagePuts", fn := fun _ => fun
  | [d] => { results := [.lit (.bool false)], args := [d] }
  | _ => none }
def PagePutsWrongFalsely : Prop := pagePutsRow.holds Try.pinned (OpenSpec.ofChange pagePutsWrong)

/-- 'lockkeeperlaw02.PageTakes': WHATEVER THE INPUT: true; the input reads as it did. -/
def pageTakesSpec : ChangeSpec := { name := "pageTakes", fn := fun _ => fun
  | [d] => { results := [.lit (.bool true)], args := [d] }
  | _ => none }
def pageTakesRow : OpenClaim := { program := "ytbjlbloncjfbhaa", sum := "cad67c722ace2063f17e64e8cfaeeb49c6ed71ba0b2892be2c3d768a71d464ab", func := "lockkeeper/lockkeeperlaw02.PageTakes", spec := "pageTakes", inPlace := ["internal/abi.NoEscape", "internal/bytealg.MakeNoZero"], apart := false }
def PageTakesSaid : Prop := pageTakesRow.holds Try.pinned (OpenSpec.ofChange pageTakesSpec)

/-- ITS FALSE NEIGHBOUR: 'it returns false'. Refute it at one input. -/
def pageTakesWrong : ChangeSpec := { name := "pageTakes", fn := fun _ => fun
  | [d] => { results := [.lit (.bool false)], args := [d] }
  | _ => none }
def PageTakesWrongFalsely : Prop := pageTakesRow.holds Try.pinned (OpenSpec.ofChange pageTakesWrong)

/-- 'lockkeeperlaw02.PageBit': WHATEVER THE INPUT: true; the input reads as it did. -/
def pageBitSpec : ChangeSpec := { name := "pageBit", fn := fun _ => fun
  | [d1, d2, d3] => { results := [.lit (.bool true)], args := [d1, d2, d3] }
  | _ => none }
def pageBitRow : OpenClaim := { program := "ytbjlbloncjfbhaa", sum := "cad67c722ace2063f17e64e8cfaeeb49c6ed71ba0b2892be2c3d768a71d464ab", func := "lockkeeper/lockkeeperlaw02.PageBit", spec := "pageBit", inPlace := ["internal/abi.NoEscape", "internal/bytealg.MakeNoZero"], apart := false }
def PageBitSaid : Prop := pageBitRow.holds Try.pinned (OpenSpec.ofChange pageBitSpec)

/-- ITS FALSE NEIGHBOUR: 'it returns false'. Refute it at one input. -/
def pageBitWrong : ChangeSpec := { name := "pageBit", fn := fun _ => fun
  | [d1, d2, d3] => { results := [.lit (.bool false)], args := [d1, d2, d3] }
  | _ => none }
def PageBitWrongFalsely : Prop := pageBitRow.holds Try.pinned (OpenSpec.ofChange pageBitWrong)

/-- 'lockkeeperlaw02.PageApart': WHATEVER THE INPUT: true; the input reads as it did. -/
def pageApartSpec : ChangeSpec := { name := "pageApart", fn := fun _ => fun
  | [d1, d2] => { results := [.lit (.bool true)], args := [d1, d2] }
  | _ => none }
def pageApartRow : OpenClaim := { program := "ytbjlbloncjfbhaa", sum := "cad67c722ace2063f17e64e8cfaeeb49c6ed71ba0b2892be2c3d768a71d464ab", func := "lockkeeper/lockkeeperlaw02.PageApart", spec := "pageApart", inPlace := ["internal/abi.NoEscape", "internal/bytealg.MakeNoZero"], apart := false }
def PageApartSaid : Prop := pageApartRow.holds Try.pinned (OpenSpec.ofChange pageApartSpec)

/-- ITS FALSE NEIGHBOUR: 'it returns false'. Refute it at one input. -/
def pageApartWrong : ChangeSpec := { name := "pageApart", fn := fun _ => fun
  | [d1, d2] => { results := [.lit (.bool false)], args := [d1, d2] }
  | _ => none }
def PageApartWrongFalsely : Prop := pageApartRow.holds Try.pinned (OpenSpec.ofChange pageApartWrong)

/-- 'lockkeeperlaw02.PageNoughts': WHATEVER THE INPUT: true; the input reads as it did. -/
def pageNoughtsSpec : ChangeSpec := { name := "pageNoughts", fn := fun _ => fun
  | [d1, d2, d3] => { results := [.lit (.bool true)], args := [d1, d2, d3] }
  | _ => none }
def pageNoughtsRow : OpenClaim := { program := "ytbjlbloncjfbhaa", sum := "cad67c722ace2063f17e64e8cfaeeb49c6ed71ba0b2892be2c3d768a71d464ab", func := "lockkeeper/lockkeeperlaw02.PageNoughts", spec := "pageNoughts", inPlace := ["internal/abi.NoEscape", "internal/bytealg.MakeNoZero"], apart := false }
def PageNoughtsSaid : Prop := pageNoughtsRow.holds Try.pinned (OpenSpec.ofChange pageNoughtsSpec)

/-- ITS FALSE NEIGHBOUR: 'it returns false'. Refute it at one input. -/
def pageNoughtsWrong : ChangeSpec := { name := "pageNoughts", fn := fun _ => fun
  | [d1, d2, d3] => { results := [.lit (.bool false)], args := [d1, d2, d3] }
  | _ => none }
def PageNoughtsWrongFalsely : Prop := pageNoughtsRow.holds Try.pinned (OpenSpec.ofChange pageNoughtsWrong)

/-- 'lockkeeperlaw02.PageForm': WHATEVER THE INPUT: true; the input reads as it did. -/
def pageFormSpec : ChangeSpec := { name := "pageForm", fn := fun _ => fun
  | [d1, d2] => { results := [.lit (.bool true)], args := [d1, d2] }
  | _ => none }
def pageFormRow : OpenClaim := { program := "ytbjlbloncjfbhaa", sum := "cad67c722ace2063f17e64e8cfaeeb49c6ed71ba0b2892be2c3d768a71d464ab", func := "lockkeeper/lockkeeperlaw02.PageForm", spec := "pageForm", inPlace := ["internal/abi.NoEscape", "internal/bytealg.MakeNoZero"], apart := false }
def PageFormSaid : Prop := pageFormRow.holds Try.pinned (OpenSpec.ofChange pageFormSpec)

/-- ITS FALSE NEIGHBOUR: 'it returns false'. Refute it at one input. -/
def pageFormWrong : ChangeSpec := { name := "pageForm", fn := fun _ => fun
  | [d1, d2] => { results := [.lit (.bool false)], args := [d1, d2] }
  | _ => none }
def PageFormWrongFalsely : Prop := pageFormRow.holds Try.pinned (OpenSpec.ofChange pageFormWrong)

/-- 'lockkeeperlaw02.PageVersions': WHATEVER THE INPUT: true; the input reads as it did. -/
def pageVersionsSpec : ChangeSpec := { name := "pageVersions", fn := fun _ => fun
  | [d1, d2, d3, d4] => { results := [.lit (.bool true)], args := [d1, d2, d3, d4] }
  | _ => none }
def pageVersionsRow : OpenClaim := { program := "ytbjlbloncjfbhaa", sum := "cad67c722ace2063f17e64e8cfaeeb49c6ed71ba0b2892be2c3d768a71d464ab", func := "lockkeeper/lockkeeperlaw02.PageVersions", spec := "pageVersions", inPlace := ["internal/abi.NoEscape", "internal/bytealg.MakeNoZero"], apart := false }
def PageVersionsSaid : Prop := pageVersionsRow.holds Try.pinned (OpenSpec.ofChange pageVersionsSpec)

/-- ITS FALSE NEIGHBOUR: 'it returns false'. Refute it at one input. -/
def pageVersionsWrong : ChangeSpec := { name := "pageVersions", fn := fun _ => fun
  | [d1, d2, d3, d4] => { results := [.lit (.bool false)], args := [d1, d2, d3, d4] }
  | _ => none }
def PageVersionsWrongFalsely : Prop := pageVersionsRow.holds Try.pinned (OpenSpec.ofChange pageVersionsWrong)

/- THE SECOND FORM. 'bulk': how many values and letters a reading holds, each counted each time it is reached (what is shared counts as often as it is met; a slice's spare places count too). A statement '..UptoSaid' is the law's where the arguments, and the package variables that the reading takes, are together of bulk at most 1048576: NARROWER than '..Said'. Prove '..Said' where nothing that the law and all that it calls make is longer than what came in: it says more and counts as full. Else prove '..UptoSaid'. A law counts once. -/
mutual
def uptoBulk {H : Type} : DataW H → Nat
  | .lit (.string bytes) => bytes.length + 1
  | .lit _ => 1
  | .nil => 1
  | .ptr d => uptoBulk d + 1
  | .slice elems spare => uptoBulkAll elems + uptoBulkAll spare + 1
  | .agg parts => uptoBulkAll parts + 1
  | .iface _ d => uptoBulk d + 1
  | .map entries => uptoBulkEntries entries + 1
  | .held _ => 1
def uptoBulkAll {H : Type} : List (DataW H) → Nat
  | [] => 0
  | d :: r => uptoBulk d + uptoBulkAll r
def uptoBulkEntries {H : Type} : List (Lit × DataW H) → Nat
  | [] => 0
  | x :: r => uptoBulkEntry x + uptoBulkEntries r
def uptoBulkEntry {H : Type} : Lit × DataW H → Nat
  | (.string bytes, d) => bytes.length + uptoBulk d + 1
  | (_, d) => uptoBulk d + 1
 end
def uptoSmall : (H : Type) → List (DataW H) → Bool := fun _ ds => decide (uptoBulkAll ds ≤ 1048576)
def OpenSpec.upto (s : _root_.Go.ChangeSpec) : _root_.Go.OpenSpec := { _root_.Go.OpenSpec.ofChange s with cond := some uptoSmall }

/-- 'lockkeeperlaw02.PagePuts', WHERE WHAT IT READS IS OF BULK AT MOST 1048576: true; the input reads as it did. -/
def pagePutsUptoRow : OpenClaim := { program := "ytbjlbloncjfbhaa", sum := "cad67c722ace2063f17e64e8cfaeeb49c6ed71ba0b2892be2c3d768a71d464ab", func := "lockkeeper/lockkeeperlaw02.PagePuts", spec := "pagePuts", inPlace := ["internal/abi.NoEscape", "internal/bytealg.MakeNoZero"], apart := false, narrowed := true }
def PagePutsUptoSaid : Prop := pagePutsUptoRow.holds Try.pinned (OpenSpec.upto pagePutsSpec)

/-- 'lockkeeperlaw02.PageTakes', WHERE WHAT IT READS IS OF BULK AT MOST 1048576: true; the input reads as it did. -/
def pageTakesUptoRow : OpenClaim := { program := "ytbjlbloncjfbhaa", sum := "cad67c722ace2063f17e64e8cfaeeb49c6ed71ba0b2892be2c3d768a71d464ab", func := "lockkeeper/lockkeeperlaw02.PageTakes", spec := "pageTakes", inPlace := ["internal/abi.NoEscape", "internal/bytealg.MakeNoZero"], apart := false, narrowed := true }
def PageTakesUptoSaid : Prop := pageTakesUptoRow.holds Try.pinned (OpenSpec.upto pageTakesSpec)

/-- 'lockkeeperlaw02.PageBit', WHERE WHAT IT READS IS OF BULK AT MOST 1048576: true; the input reads as it did. -/
def pageBitUptoRow : OpenClaim := { program := "ytbjlbloncjfbhaa", sum := "cad67c722ace2063f17e64e8cfaeeb49c6ed71ba0b2892be2c3d768a71d464ab", func := "lockkeeper/lockkeeperlaw02.PageBit", spec := "pageBit", inPlace := ["internal/abi.NoEscape", "internal/bytealg.MakeNoZero"], apart := false, narrowed := true }
def PageBitUptoSaid : Prop := pageBitUptoRow.holds Try.pinned (OpenSpec.upto pageBitSpec)

/-- 'lockkeeperlaw02.PageApart', WHERE WHAT IT READS IS OF BULK AT MOST 1048576: true; the input reads as it did. -/
def pageApartUptoRow : OpenClaim := { program := "ytbjlbloncjfbhaa", sum := "cad67c722ace2063f17e64e8cfaeeb49c6ed71ba0b2892be2c3d768a71d464ab", func := "lockkeeper/lockkeeperlaw02.PageApart", spec := "pageApart", inPlace := ["internal/abi.NoEscape", "internal/bytealg.MakeNoZero"], apart := false, narrowed := true }
def PageApartUptoSaid : Prop := pageApartUptoRow.holds Try.pinned (OpenSpec.upto pageApartSpec)

/-- 'lockkeeperlaw02.PageNoughts', WHERE WHAT IT READS IS OF BULK AT MOST 1048576: true; the input reads as it did. -/
def pageNoughtsUptoRow : OpenClaim := { program := "ytbjlbloncjfbhaa", sum := "cad67c722ace2063f17e64e8cfaeeb49c6ed71ba0b2892be2c3d768a71d464ab", func := "lockkeeper/lockkeeperlaw02.PageNoughts", spec := "pageNoughts", inPlace := ["internal/abi.NoEscape", "internal/bytealg.MakeNoZero"], apart := false, narrowed := true }
def PageNoughtsUptoSaid : Prop := pageNoughtsUptoRow.holds Try.pinned (OpenSpec.upto pageNoughtsSpec)

/-- 'lockkeeperlaw02.PageForm', WHERE WHAT IT READS IS OF BULK AT MOST 1048576: true; the input reads as it did. -/
def pageFormUptoRow : OpenClaim := { program := "ytbjlbloncjfbhaa", sum := "cad67c722ace2063f17e64e8cfaeeb49c6ed71ba0b2892be2c3d768a71d464ab", func := "lockkeeper/lockkeeperlaw02.PageForm", spec := "pageForm", inPlace := ["internal/abi.NoEscape", "internal/bytealg.MakeNoZero"], apart := false, narrowed := true }
def PageFormUptoSaid : Prop := pageFormUptoRow.holds Try.pinned (OpenSpec.upto pageFormSpec)

/-- 'lockkeeperlaw02.PageVersions', WHERE WHAT IT READS IS OF BULK AT MOST 1048576: true; the input reads as it did. -/
def pageVersionsUptoRow : OpenClaim := { program := "ytbjlbloncjfbhaa", sum := "cad67c722ace2063f17e64e8cfaeeb49c6ed71ba0b2892be2c3d768a71d464ab", func := "lockkeeper/lockkeeperlaw02.PageVersions", spec := "pageVersions", inPlace := ["internal/abi.NoEscape", "internal/bytealg.MakeNoZero"], apart := false, narrowed := true }
def PageVersionsUptoSaid : Prop := pageVersionsUptoRow.holds Try.pinned (OpenSpec.upto pageVersionsSpec)

end Rows
end Go.Proofs.Ytbjlbloncjfbhaa
