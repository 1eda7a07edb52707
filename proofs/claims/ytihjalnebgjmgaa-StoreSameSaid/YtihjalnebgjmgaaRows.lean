/-
  No cell of these rows narrows 'for every input' (looked for: loops, veiled, ifaces, maps, wideKeys, modest, calm, conditions, laid).
  DERIVED. THE GIVEN ROWS OF THIS SEAT. 12 by the template 'for every input the law returns true; each argument reads behind the call as it read before'; 0 by the template 'total and deterministic' (their statements: YtihjalnebgjmgaaTotals.lean).
  GIVEN WITH THE SEED: the statements are not yours to turn. If you find one false, say at which input.
  Laid BY PROGRAM, IN A SANDBOX (cutbox-rows.mjs): the forced cells as the released guide's own fill.sh prints them over the translation 2638d2f685b7d502… (all of the seat's roots in one cut). By AI agents, Wed Nov 11 2026. No macro, syntax, notation, axiom, sorry.
-/
import Derived.Test.YtihjalnebgjmgaaChecked
import GoSem.Claim
import GoSem.ClaimJoined
import GoSem.ClaimMapViews
import Derived.JoinedTies
import Derived.KernelRfl
namespace Go.Proofs.Ytihjalnebgjmgaa
/- THE CELL 'sum', in the pinned program and in every row, IS THE sha256 OF THE DUMP (.gsa) THAT YtihjalnebgjmgaaProg.lean LOADS. Nothing in Lean hashes anything: it is a label: what it is worth is what the hold of that sum in a sandbox is worth. -/
noncomputable def Try.pinned : Pinned := { name := "ytihjalnebgjmgaa", sum := "2638d2f685b7d502f7a32478cc8f3afc7a3ba0e3385c09cb74992453358a06b4", checked := Try.checked }
namespace Rows
def none {H : Type} : Left H := { results := [], args := [] }

/-- 'lockkeeperlaw12.JournalPlans': WHATEVER THE INPUT: true; the input reads as it did. -/
def journalPlansSpec : ChangeSpec := { name := "journalPlans", fn := fun _ => fun
  | [d1, d2, d3] => { results := [.lit (.bool true)], args := [d1, d2, d3] }
  | _ => none }
def journalPlansRow : OpenClaim := { program := "ytihjalnebgjmgaa", sum := "2638d2f685b7d502f7a32478cc8f3afc7a3ba0e3385c09cb74992453358a06b4", func := "lockkeeper/lockkeeperlaw12.JournalPlans", spec := "journalPlans", inPlace := ["internal/abi.NoEscape", "internal/bytealg.MakeNoZero"], unfollowed := true, recurses := true, apart := false }
def JournalPlansSaid : Prop := journalPlansRow.holds Try.pinned (OpenSpec.ofChange journalPlansSpec)

/-- ITS FALSE NEIGHBOUR: 'it returns false'. Refute it at one input. -/
def journalPlansWrong : ChangeSpec := { name := "journalPlans", fn := fun _ => fun
  | [d1, d2, d3] => { results := [.lit (.bool false)], args := [d1, d2, d3] }
  | _ => none }
def JournalPlansWrongFalsely : Prop := journalPlansRow.holds Try.pinned (OpenSpec.ofChange journalPlansWrong)

/-- 'lockkeeperlaw12.JournalMany': WHATEVER THE INPUT: true; the input reads as it did. -/
def journalManySpec : ChangeSpec := { name := "journalMany", fn := fun _ => fun
  | [d1, d2] => { results := [.lit (.bool true)], args := [d1, d2] }
  | _ => none }
def journalManyRow : OpenClaim := { program := "ytihjalnebgjmgaa", sum := "2638d2f685b7d502f7a32478cc8f3afc7a3ba0e3385c09cb74992453358a06b4", func := "lockkeeper/lockkeeperlaw12.JournalMany", spec := "journalMany", inPlace := ["internal/abi.NoEscape", "internal/bytealg.MakeNoZero"], unfollowed := true, recurses := true, apart := false }
def JournalManySaid : Prop := journalManyRow.holds Try.pinned (OpenSpec.ofChange journalManySpec)

/-- ITS FALSE NEIGHBOUR: 'it returns false'. Refute it at one input. -/
def journalManyWrong : ChangeSpec := { name := "journalMany", fn := fun _ => fun
  | [d1, d2] => { results := [.lit (.bool false)], args := [d1, d2] }
  | _ => none }
def JournalManyWrongFalsely : Prop := journalManyRow.holds Try.pinned (OpenSpec.ofChange journalManyWrong)

/-- 'lockkeeperlaw12.JournalIdle': WHATEVER THE INPUT: true; the input reads as it did. -/
def journalIdleSpec : ChangeSpec := { name := "journalIdle", fn := fun _ => fun
  | [d1, d2, d3] => { results := [.lit (.bool true)], args := [d1, d2, d3] }
  | _ => none }
def journalIdleRow : OpenClaim := { program := "ytihjalnebgjmgaa", sum := "2638d2f685b7d502f7a32478cc8f3afc7a3ba0e3385c09cb74992453358a06b4", func := "lockkeeper/lockkeeperlaw12.JournalIdle", spec := "journalIdle", inPlace := ["internal/abi.NoEscape", "internal/bytealg.MakeNoZero"], unfollowed := true, recurses := true, apart := false }
def JournalIdleSaid : Prop := journalIdleRow.holds Try.pinned (OpenSpec.ofChange journalIdleSpec)

/-- ITS FALSE NEIGHBOUR: 'it returns false'. Refute it at one input. -/
def journalIdleWrong : ChangeSpec := { name := "journalIdle", fn := fun _ => fun
  | [d1, d2, d3] => { results := [.lit (.bool false)], args := [d1, d2, d3] }
  | _ => none }
def JournalIdleWrongFalsely : Prop := journalIdleRow.holds Try.pinned (OpenSpec.ofChange journalIdleWrong)

/-- 'lockkeeperlaw12.JournalHead': WHATEVER THE INPUT: true; the input reads as it did. -/
def journalHeadSpec : ChangeSpec := { name := "journalHead", fn := fun _ => fun
  | [d1, d2] => { results := [.lit (.bool true)], args := [d1, d2] }
  | _ => none }
def journalHeadRow : OpenClaim := { program := "ytihjalnebgjmgaa", sum := "2638d2f685b7d502f7a32478cc8f3afc7a3ba0e3385c09cb74992453358a06b4", func := "lockkeeper/lockkeeperlaw12.JournalHead", spec := "journalHead", inPlace := ["internal/abi.NoEscape", "internal/bytealg.MakeNoZero"], unfollowed := true, recurses := true, apart := false }
def JournalHeadSaid : Prop := journalHeadRow.holds Try.pinned (OpenSpec.ofChange journalHeadSpec)

/-- ITS FALSE NEIGHBOUR: 'it returns false'. Refute it at one input. -/
def journalHeadWrong : ChangeSpec := { name := "journalHead", fn := fun _ => fun
  | [d1, d2] => { results := [.lit (.bool false)], args := [d1, d2] }
  | _ => none }
def JournalHeadWrongFalsely : Prop := journalHeadRow.holds Try.pinned (OpenSpec.ofChange journalHeadWrong)

/-- 'lockkeeperlaw12.JournalApart': WHATEVER THE INPUT: true; the input reads as it did. -/
def journalApartSpec : ChangeSpec := { name := "journalApart", fn := fun _ => fun
  | [d1, d2, d3, d4, d5] => { results := [.lit (.bool true)], args := [d1, d2, d3, d4, d5] }
  | _ => none }
def journalApartRow : OpenClaim := { program := "ytihjalnebgjmgaa", sum := "2638d2f685b7d502f7a32478cc8f3afc7a3ba0e3385c09cb74992453358a06b4", func := "lockkeeper/lockkeeperlaw12.JournalApart", spec := "journalApart", inPlace := ["internal/abi.NoEscape", "internal/bytealg.MakeNoZero"], unfollowed := true, recurses := true, apart := false }
def JournalApartSaid : Prop := journalApartRow.holds Try.pinned (OpenSpec.ofChange journalApartSpec)

/-- ITS FALSE NEIGHBOUR: 'it returns false'. Refute it at one input. -/
def journalApartWrong : ChangeSpec := { name := "journalApart", fn := fun _ => fun
  | [d1, d2, d3, d4, d5] => { results := [.lit (.bool false)], args := [d1, d2, d3, d4, d5] }
  | _ => none }
def JournalApartWrongFalsely : Prop := journalApartRow.holds Try.pinned (OpenSpec.ofChange journalApartWrong)

/-- 'lockkeeperlaw12.JournalWhole': WHATEVER THE INPUT: true; the input reads as it did. -/
def journalWholeSpec : ChangeSpec := { name := "journalWhole", fn := fun _ => fun
  | [d1, d2, d3, d4, d5, d6, d7] => { results := [.lit (.bool true)], args := [d1, d2, d3, d4, d5, d6, d7] }
  | _ => none }
def journalWholeRow : OpenClaim := { program := "ytihjalnebgjmgaa", sum := "2638d2f685b7d502f7a32478cc8f3afc7a3ba0e3385c09cb74992453358a06b4", func := "lockkeeper/lockkeeperlaw12.JournalWhole", spec := "journalWhole", inPlace := ["internal/abi.NoEscape", "internal/bytealg.MakeNoZero"], unfollowed := true, recurses := true, apart := false }
def JournalWholeSaid : Prop := journalWholeRow.holds Try.pinned (OpenSpec.ofChange journalWholeSpec)

/-- ITS FALSE NEIGHBOUR: 'it returns false'. Refute it at one input. -/
def journalWholeWrong : ChangeSpec := { name := "journalWhole", fn := fun _ => fun
  | [d1, d2, d3, d4, d5, d6, d7] => { results := [.lit (.bool false)], args := [d1, d2, d3, d4, d5, d6, d7] }
  | _ => none }
def JournalWholeWrongFalsely : Prop := journalWholeRow.holds Try.pinned (OpenSpec.ofChange journalWholeWrong)

/-- 'lockkeeperlaw13.StoreExact': WHATEVER THE INPUT: true; the input reads as it did. -/
def storeExactSpec : ChangeSpec := { name := "storeExact", fn := fun _ => fun
  | [d1, d2, d3] => { results := [.lit (.bool true)], args := [d1, d2, d3] }
  | _ => none }
def storeExactRow : OpenClaim := { program := "ytihjalnebgjmgaa", sum := "2638d2f685b7d502f7a32478cc8f3afc7a3ba0e3385c09cb74992453358a06b4", func := "lockkeeper/lockkeeperlaw13.StoreExact", spec := "storeExact", inPlace := ["internal/abi.NoEscape", "internal/bytealg.MakeNoZero"], unfollowed := true, recurses := true, apart := false }
def StoreExactSaid : Prop := storeExactRow.holds Try.pinned (OpenSpec.ofChange storeExactSpec)

/-- ITS FALSE NEIGHBOUR: 'it returns false'. Refute it at one input. -/
def storeExactWrong : ChangeSpec := { name := "storeExact", fn := fun _ => fun
  | [d1, d2, d3] => { results := [.lit (.bool false)], args := [d1, d2, d3] }
  | _ => none }
def StoreExactWrongFalsely : Prop := storeExactRow.holds Try.pinned (OpenSpec.ofChange storeExactWrong)

/-- 'lockkeeperlaw13.StoreLists': WHATEVER THE INPUT: true; the input reads as it did. -/
def storeListsSpec : ChangeSpec := { name := "storeLists", fn := fun _ => fun
  | [d] => { results := [.lit (.bool true)], args := [d] }
  | _ => none }
def storeListsRow : OpenClaim := { program := "ytihjalnebgjmgaa", sum := "2638d2f685b7d502f7a32478cc8f3afc7a3ba0e3385c09cb74992453358a06b4", func := "lockkeeper/lockkeeperlaw13.StoreLists", spec := "storeLists", inPlace := ["internal/abi.NoEscape", "internal/bytealg.MakeNoZero"], unfollowed := true, recurses := true, apart := false }
def StoreListsSaid : Prop := storeListsRow.holds Try.pinned (OpenSpec.ofChange storeListsSpec)

/-- ITS FALSE NEIGHBOUR: 'it returns false'. Refute it at one input. -/
def storeListsWrong : ChangeSpec := { name := "storeLists", fn := fun _ => fun
  | [d] => { results := [.lit (.bool false)], args := [d] }
  | _ => none }
def StoreListsWrongFalsely : Prop := storeListsRow.holds Try.pinned (OpenSpec.ofChange storeListsWrong)

/-- 'lockkeeperlaw13.StoreKeeps': WHATEVER THE INPUT: true; the input reads as it did. -/
def storeKeepsSpec : ChangeSpec := { name := "storeKeeps", fn := fun _ => fun
  | [d] => { results := [.lit (.bool true)], args := [d] }
  | _ => none }
def storeKeepsRow : OpenClaim := { program := "ytihjalnebgjmgaa", sum := "2638d2f685b7d502f7a32478cc8f3afc7a3ba0e3385c09cb74992453358a06b4", func := "lockkeeper/lockkeeperlaw13.StoreKeeps", spec := "storeKeeps", inPlace := ["internal/abi.NoEscape", "internal/bytealg.MakeNoZero"], unfollowed := true, recurses := true, apart := false }
def StoreKeepsSaid : Prop := storeKeepsRow.holds Try.pinned (OpenSpec.ofChange storeKeepsSpec)

/-- ITS FALSE NEIGHBOUR: 'it returns false'. Refute it at one input. -/
def storeKeepsWrong : ChangeSpec := { name := "storeKeeps", fn := fun _ => fun
  | [d] => { results := [.lit (.bool false)], args := [d] }
  | _ => none }
def StoreKeepsWrongFalsely : Prop := storeKeepsRow.holds Try.pinned (OpenSpec.ofChange storeKeepsWrong)

/-- 'lockkeeperlaw13.StoreOther': WHATEVER THE INPUT: true; the input reads as it did. -/
def storeOtherSpec : ChangeSpec := { name := "storeOther", fn := fun _ => fun
  | [d1, d2, d3] => { results := [.lit (.bool true)], args := [d1, d2, d3] }
  | _ => none }
def storeOtherRow : OpenClaim := { program := "ytihjalnebgjmgaa", sum := "2638d2f685b7d502f7a32478cc8f3afc7a3ba0e3385c09cb74992453358a06b4", func := "lockkeeper/lockkeeperlaw13.StoreOther", spec := "storeOther", inPlace := ["internal/abi.NoEscape", "internal/bytealg.MakeNoZero"], unfollowed := true, recurses := true, apart := false }
def StoreOtherSaid : Prop := storeOtherRow.holds Try.pinned (OpenSpec.ofChange storeOtherSpec)

/-- ITS FALSE NEIGHBOUR: 'it returns false'. Refute it at one input. -/
def storeOtherWrong : ChangeSpec := { name := "storeOther", fn := fun _ => fun
  | [d1, d2, d3] => { results := [.lit (.bool false)], args := [d1, d2, d3] }
  | _ => none }
def StoreOtherWrongFalsely : Prop := storeOtherRow.holds Try.pinned (OpenSpec.ofChange storeOtherWrong)

/-- 'lockkeeperlaw13.StoreSame': WHATEVER THE INPUT: true; the input reads as it did. -/
def storeSameSpec : ChangeSpec := { name := "storeSame", fn := fun _ => fun
  | [d] => { results := [.lit (.bool true)], args := [d] }
  | _ => none }
def storeSameRow : OpenClaim := { program := "ytihjalnebgjmgaa", sum := "2638d2f685b7d502f7a32478cc8f3afc7a3ba0e3385c09cb74992453358a06b4", func := "lockkeeper/lockkeeperlaw13.StoreSame", spec := "storeSame", inPlace := ["internal/abi.NoEscape", "internal/bytealg.MakeNoZero"], unfollowed := true, recurses := true, apart := false }
def StoreSameSaid : Prop := storeSameRow.holds Try.pinned (OpenSpec.ofChange storeSameSpec)

/-- ITS FALSE NEIGHBOUR: 'it returns false'. Refute it at one input. -/
def storeSameWrong : ChangeSpec := { name := "storeSame", fn := fun _ => fun
  | [d] => { results := [.lit (.bool false)], args := [d] }
  | _ => none }
def StoreSameWrongFalsely : Prop := storeSameRow.holds Try.pinned (OpenSpec.ofChange storeSameWrong)

/-- 'lockkeeperlaw13.StoreCrash': WHATEVER THE INPUT: true; the input reads as it did. -/
def storeCrashSpec : ChangeSpec := { name := "storeCrash", fn := fun _ => fun
  | [d1, d2, d3, d4] => { results := [.lit (.bool true)], args := [d1, d2, d3, d4] }
  | _ => none }
def storeCrashRow : OpenClaim := { program := "ytihjalnebgjmgaa", sum := "2638d2f685b7d502f7a32478cc8f3afc7a3ba0e3385c09cb74992453358a06b4", func := "lockkeeper/lockkeeperlaw13.StoreCrash", spec := "storeCrash", inPlace := ["internal/abi.NoEscape", "internal/bytealg.MakeNoZero"], unfollowed := true, recurses := true, apart := false }
def StoreCrashSaid : Prop := storeCrashRow.holds Try.pinned (OpenSpec.ofChange storeCrashSpec)

/-- ITS FALSE NEIGHBOUR: 'it returns false'. Refute it at one input. -/
def storeCrashWrong : ChangeSpec := { name := "storeCrash", fn := fun _ => fun
  | [d1, d2, d3, d4] => { results := [.lit (.bool false)], args := [d1, d2, d3, d4] }
  | _ => none }
def StoreCrashWrongFalsely : Prop := storeCrashRow.holds Try.pinned (OpenSpec.ofChange storeCrashWrong)

/- THE SECOND FORM. 'bulk': how many values and letters a reading holds, each counted each time it is reached (what is shared counts as often as it is met; a slice's spare places count too). A statement '..UptoSaid' is the law's where the arguments, and the package variables that the reading takes, are together of bulk at most 1048576: NARROWER than '..Said'. Prove '..Said' where nothing that the law and all that it calls make is longer than what came in: it says more and counts as full. Else prove '..UptoSaid'. A law counts once. -/
mutual
def uptoBulk {H : Type} : DataW H → Nat
  | .lit (.string bytes) => bytes.length + 1
  | .lit _ => 1
  | .nil => 1
  | .ptr d => uptoBulk d + 1
  | .slice elems spare => uptoBulkAll elems + uptoBulkAll spare + 1
  | .agg parts => uptoBulkAll parts + 1
  | .iface _ d => uptoBulk d + 1
  | .map entries => uptoBulkEntries entries + 1
  | .held _ => 1
def uptoBulkAll {H : Type} : List (DataW H) → Nat
  | [] => 0
  | d :: r => uptoBulk d + uptoBulkAll r
def uptoBulkEntries {H : Type} : List (Lit × DataW H) → Nat
  | [] => 0
  | x :: r => uptoBulkEntry x + uptoBulkEntries r
def uptoBulkEntry {H : Type} : Lit × DataW H → Nat
  | (.string bytes, d) => bytes.length + uptoBulk d + 1
  | (_, d) => uptoBulk d + 1
 end
def uptoSmall : (H : Type) → List (DataW H) → Bool := fun _ ds => decide (uptoBulkAll ds ≤ 1048576)
def OpenSpec.upto (s : _root_.Go.ChangeSpec) : _root_.Go.OpenSpec := { _root_.Go.OpenSpec.ofChange s with cond := some uptoSmall }

/-- 'lockkeeperlaw12.JournalPlans', WHERE WHAT IT READS IS OF BULK AT MOST 1048576: true; the input reads as it did. -/
def journalPlansUptoRow : OpenClaim := { program := "ytihjalnebgjmgaa", sum := "2638d2f685b7d502f7a32478cc8f3afc7a3ba0e3385c09cb74992453358a06b4", func := "lockkeeper/lockkeeperlaw12.JournalPlans", spec := "journalPlans", inPlace := ["internal/abi.NoEscape", "internal/bytealg.MakeNoZero"], unfollowed := true, recurses := true, apart := false, narrowed := true }
def JournalPlansUptoSaid : Prop := journalPlansUptoRow.holds Try.pinned (OpenSpec.upto journalPlansSpec)

/-- 'lockkeeperlaw12.JournalMany', WHERE WHAT IT READS IS OF BULK AT MOST 1048576: true; the input reads as it did. -/
def journalManyUptoRow : OpenClaim := { program := "ytihjalnebgjmgaa", sum := "2638d2f685b7d502f7a32478cc8f3afc7a3ba0e3385c09cb74992453358a06b4", func := "lockkeeper/lockkeeperlaw12.JournalMany", spec := "journalMany", inPlace := ["internal/abi.NoEscape", "internal/bytealg.MakeNoZero"], unfollowed := true, recurses := true, apart := false, narrowed := true }
def JournalManyUptoSaid : Prop := journalManyUptoRow.holds Try.pinned (OpenSpec.upto journalManySpec)

/-- 'lockkeeperlaw12.JournalIdle', WHERE WHAT IT READS IS OF BULK AT MOST 1048576: true; the input reads as it did. -/
def journalIdleUptoRow : OpenClaim := { program := "ytihjalnebgjmgaa", sum := "2638d2f685b7d502f7a32478cc8f3afc7a3ba0e3385c09cb74992453358a06b4", func := "lockkeeper/lockkeeperlaw12.JournalIdle", spec := "journalIdle", inPlace := ["internal/abi.NoEscape", "internal/bytealg.MakeNoZero"], unfollowed := true, recurses := true, apart := false, narrowed := true }
def JournalIdleUptoSaid : Prop := journalIdleUptoRow.holds Try.pinned (OpenSpec.upto journalIdleSpec)

/-- 'lockkeeperlaw12.JournalHead', WHERE WHAT IT READS IS OF BULK AT MOST 1048576: true; the input reads as it did. -/
def journalHeadUptoRow : OpenClaim := { program := "ytihjalnebgjmgaa", sum := "2638d2f685b7d502f7a32478cc8f3afc7a3ba0e3385c09cb74992453358a06b4", func := "lockkeeper/lockkeeperlaw12.JournalHead", spec := "journalHead", inPlace := ["internal/abi.NoEscape", "internal/bytealg.MakeNoZero"], unfollowed := true, recurses := true, apart := false, narrowed := true }
def JournalHeadUptoSaid : Prop := journalHeadUptoRow.holds Try.pinned (OpenSpec.upto journalHeadSpec)

/-- 'lockkeeperlaw12.JournalApart', WHERE WHAT IT READS IS OF BULK AT MOST 1048576: true; the input reads as it did. -/
def journalApartUptoRow : OpenClaim := { program := "ytihjalnebgjmgaa", sum := "2638d2f685b7d502f7a32478cc8f3afc7a3ba0e3385c09cb74992453358a06b4", func := "lockkeeper/lockkeeperlaw12.JournalApart", spec := "journalApart", inPlace := ["internal/abi.NoEscape", "internal/bytealg.MakeNoZero"], unfollowed := true, recurses := true, apart := false, narrowed := true }
def JournalApartUptoSaid : Prop := journalApartUptoRow.holds Try.pinned (OpenSpec.upto journalApartSpec)

/-- 'lockkeeperlaw12.JournalWhole', WHERE WHAT IT READS IS OF BULK AT MOST 1048576: true; the input reads as it did. -/
def journalWholeUptoRow : OpenClaim := { program := "ytihjalnebgjmgaa", sum := "2638d2f685b7d502f7a32478cc8f3afc7a3ba0e3385c09cb74992453358a06b4", func := "lockkeeper/lockkeeperlaw12.JournalWhole", spec := "journalWhole", inPlace := ["internal/abi.NoEscape", "internal/bytealg.MakeNoZero"], unfollowed := true, recurses := true, apart := false, narrowed := true }
def JournalWholeUptoSaid : Prop := journalWholeUptoRow.holds Try.pinned (OpenSpec.upto journalWholeSpec)

/-- 'lockkeeperlaw13.StoreExact', WHERE WHAT IT READS IS OF BULK AT MOST 1048576: true; the input reads as it did. -/
def storeExactUptoRow : OpenClaim := { program := "ytihjalnebgjmgaa", sum := "2638d2f685b7d502f7a32478cc8f3afc7a3ba0e3385c09cb74992453358a06b4", func := "lockkeeper/lockkeeperlaw13.StoreExact", spec := "storeExact", inPlace := ["internal/abi.NoEscape", "internal/bytealg.MakeNoZero"], unfollowed := true, recurses := true, apart := false, narrowed := true }
def StoreExactUptoSaid : Prop := storeExactUptoRow.holds Try.pinned (OpenSpec.upto storeExactSpec)

/-- 'lockkeeperlaw13.StoreLists', WHERE WHAT IT READS IS OF BULK AT MOST 1048576: true; the input reads as it did. -/
def storeListsUptoRow : OpenClaim := { program := "ytihjalnebgjmgaa", sum := "2638d2f685b7d502f7a32478cc8f3afc7a3ba0e3385c09cb74992453358a06b4", func := "lockkeeper/lockkeeperlaw13.StoreLists", spec := "storeLists", inPlace := ["internal/abi.NoEscape", "internal/bytealg.MakeNoZero"], unfollowed := true, recurses := true, apart := false, narrowed := true }
def StoreListsUptoSaid : Prop := storeListsUptoRow.holds Try.pinned (OpenSpec.upto storeListsSpec)

/-- 'lockkeeperlaw13.StoreKeeps', WHERE WHAT IT READS IS OF BULK AT MOST 1048576: true; the input reads as it did. -/
def storeKeepsUptoRow : OpenClaim := { program := "ytihjalnebgjmgaa", sum := "2638d2f685b7d502f7a32478cc8f3afc7a3ba0e3385c09cb74992453358a06b4", func := "lockkeeper/lockkeeperlaw13.StoreKeeps", spec := "storeKeeps", inPlace := ["internal/abi.NoEscape", "internal/bytealg.MakeNoZero"], unfollowed := true, recurses := true, apart := false, narrowed := true }
def StoreKeepsUptoSaid : Prop := storeKeepsUptoRow.holds Try.pinned (OpenSpec.upto storeKeepsSpec)

/-- 'lockkeeperlaw13.StoreOther', WHERE WHAT IT READS IS OF BULK AT MOST 1048576: true; the input reads as it did. -/
def storeOtherUptoRow : OpenClaim := { program := "ytihjalnebgjmgaa", sum := "2638d2f685b7d502f7a32478cc8f3afc7a3ba0e3385c09cb74992453358a06b4", func := "lockkeeper/lockkeeperlaw13.StoreOther", spec := "storeOther", inPlace := ["internal/abi.NoEscape", "internal/bytealg.MakeNoZero"], unfollowed := true, recurses := true, apart := false, narrowed := true }
def StoreOtherUptoSaid : Prop := storeOtherUptoRow.holds Try.pinned (OpenSpec.upto storeOtherSpec)

/-- 'lockkeeperlaw13.StoreSame', WHERE WHAT IT READS IS OF BULK AT MOST 1048576: true; the input reads as it did. -/
def storeSameUptoRow : OpenClaim := { program := "ytihjalnebgjmgaa", sum := "2638d2f685b7d502f7a32478cc8f3afc7a3ba0e3385c09cb74992453358a06b4", func := "lockkeeper/lockkeeperlaw13.StoreSame", spec := "storeSame", inPlace := ["internal/abi.NoEscape", "internal/bytealg.MakeNoZero"], unfollowed := true, recurses := true, apart := false, narrowed := true }
def StoreSameUptoSaid : Prop := storeSameUptoRow.holds Try.pinned (OpenSpec.upto storeSameSpec)

/-- 'lockkeeperlaw13.StoreCrash', WHERE WHAT IT READS IS OF BULK AT MOST 1048576: true; the input reads as it did. -/
def storeCrashUptoRow : OpenClaim := { program := "ytihjalnebgjmgaa", sum := "2638d2f685b7d502f7a32478cc8f3afc7a3ba0e3385c09cb74992453358a06b4", func := "lockkeeper/lockkeeperlaw13.StoreCrash", spec := "storeCrash", inPlace := ["internal/abi.NoEscape", "internal/bytealg.MakeNoZero"], unfollowed := true, recurses := true, apart := false, narrowed := true }
def StoreCrashUptoSaid : Prop := storeCrashUptoRow.holds Try.pinned (OpenSpec.upto storeCrashSpec)

end Rows
end Go.Proofs.Ytihjalnebgjmgaa
