/-
  NARROWER THAN 'FOR EVERY INPUT', by the rows' own cells (each row's printed sentence says how): FnJoinTags: laid · FnLedgerValid: laid · FnNoiseFair: laid · FnNoiseOf: laid · FnLedgerOrder: laid · FnLeftOf: laid · FnSpendCost: laid · FnRootOf: laid · FnTreeProofs: laid · FnProofOf: laid · FnProofRight: laid.
  DERIVED. THE GIVEN ROWS OF THIS SEAT. 11 by the template 'for every input the law returns true; each argument reads behind the call as it read before'; 0 by the template 'total and deterministic' (their statements: YtbaafpfappfkjaaDoorTotals.lean).
  GIVEN WITH THE SEED: the statements are not yours to turn. If you find one false, say at which input.
  Laid BY PROGRAM, IN A SANDBOX (cutbox-rows.mjs): the forced cells as the released guide's own fill.sh prints them over the translation bda67fe10c776e24… (all of the seat's roots in one cut). By AI agents, Wed Nov 11 2026. No macro, syntax, notation, axiom, sorry.
-/
import Derived.Test.YtbaafpfappfkjaaDoorChecked
import GoSem.Claim
import GoSem.ClaimJoined
import GoSem.ClaimMapViews
import Derived.JoinedTies
import Derived.KernelRfl
namespace Go.Proofs.YtbaafpfappfkjaaDoor
/- THE CELL 'sum', in the pinned program and in every row, IS THE sha256 OF THE DUMP (.gsa) THAT YtbaafpfappfkjaaDoorProg.lean LOADS. Nothing in Lean hashes anything: it is a label: what it is worth is what the hold of that sum in a sandbox is worth. -/
noncomputable def Tryd.pinned : Pinned := { name := "ytbaafpfappfkjaadoor", sum := "bda67fe10c776e247f162cb740b413440c1ed22896be18a9392d2b303558ca82", checked := Tryd.checked }
namespace Rows
def none {H : Type} : Left H := { results := [], args := [] }

/- WHAT THE LISTED PACKAGE-LEVEL VARIABLES READ AS WHEN THE CALL BEGINS. Each datum BY PROGRAM (the guide's laid-datum.mjs) off the statement by which the dump's own 'gosem.cut.vars' lays the variable. In a bare row this is a premise. The card (YtbaafpfappfkjaaDoorCards.lean) ties it to the program's text. -/
def laid_loop_example_obliviousqueries_impl_reserved {H : Type} : DataW H := .slice [.lit (.string [115, 101, 108, 101, 99, 116]), .lit (.string [102, 114, 111, 109]), .lit (.string [106, 111, 105, 110]), .lit (.string [111, 110]), .lit (.string [119, 104, 101, 114, 101]), .lit (.string [97, 110, 100]), .lit (.string [111, 114]), .lit (.string [103, 114, 111, 117, 112]), .lit (.string [98, 121]), .lit (.string [115, 117, 109]), .lit (.string [111, 114, 100, 101, 114]), .lit (.string [100, 111, 119, 110]), .lit (.string [108, 105, 109, 105, 116])] []

/-- 'laws.FnJoinTags': WHATEVER THE INPUT: true; the input reads as it did. -/
def fnJoinTagsSpec : ChangeSpec := { name := "fnJoinTags", vars := ["loop.example/obliviousqueries/impl.reserved"], fn := fun _ => fun
  | [d, g1] => { results := [.lit (.bool true)], args := [d], vars := [g1] }
  | _ => none }
def fnJoinTagsRow : OpenClaim := { program := "ytbaafpfappfkjaadoor", sum := "bda67fe10c776e247f162cb740b413440c1ed22896be18a9392d2b303558ca82", func := "loop.example/obliviousqueries/laws.FnJoinTags", spec := "fnJoinTags", named := ["loop.example/obliviousqueries/impl.reserved"], apart := false, laid := [("loop.example/obliviousqueries/impl.reserved", laid_loop_example_obliviousqueries_impl_reserved)] }
def FnJoinTagsSaid : Prop := fnJoinTagsRow.holds Tryd.pinned (OpenSpec.ofChange fnJoinTagsSpec)

/-- ITS FALSE NEIGHBOUR: 'it returns false'. Refute it at one input. -/
def fnJoinTagsWrong : ChangeSpec := { name := "fnJoinTags", vars := ["loop.example/obliviousqueries/impl.reserved"], fn := fun _ => fun
  | [d, g1] => { results := [.lit (.bool false)], args := [d], vars := [g1] }
  | _ => none }
def FnJoinTagsWrongFalsely : Prop := fnJoinTagsRow.holds Tryd.pinned (OpenSpec.ofChange fnJoinTagsWrong)

/-- 'laws.FnLedgerValid': WHATEVER THE INPUT: true; the input reads as it did. -/
def fnLedgerValidSpec : ChangeSpec := { name := "fnLedgerValid", vars := ["loop.example/obliviousqueries/impl.reserved"], fn := fun _ => fun
  | [d, g1] => { results := [.lit (.bool true)], args := [d], vars := [g1] }
  | _ => none }
def fnLedgerValidRow : OpenClaim := { program := "ytbaafpfappfkjaadoor", sum := "bda67fe10c776e247f162cb740b413440c1ed22896be18a9392d2b303558ca82", func := "loop.example/obliviousqueries/laws.FnLedgerValid", spec := "fnLedgerValid", named := ["loop.example/obliviousqueries/impl.reserved"], apart := false, laid := [("loop.example/obliviousqueries/impl.reserved", laid_loop_example_obliviousqueries_impl_reserved)] }
def FnLedgerValidSaid : Prop := fnLedgerValidRow.holds Tryd.pinned (OpenSpec.ofChange fnLedgerValidSpec)

/-- ITS FALSE NEIGHBOUR: 'it returns false'. Refute it at one input. -/
def fnLedgerValidWrong : ChangeSpec := { name := "fnLedgerValid", vars := ["loop.example/obliviousqueries/impl.reserved"], fn := fun _ => fun
  | [d, g1] => { results := [.lit (.bool false)], args := [d], vars := [g1] }
  | _ => none }
def FnLedgerValidWrongFalsely : Prop := fnLedgerValidRow.holds Tryd.pinned (OpenSpec.ofChange fnLedgerValidWrong)

/-- 'laws.FnNoiseFair': WHATEVER THE INPUT: true; the input reads as it did. -/
def fnNoiseFairSpec : ChangeSpec := { name := "fnNoiseFair", vars := ["loop.example/obliviousqueries/impl.reserved"], fn := fun _ => fun
  | [d, g1] => { results := [.lit (.bool true)], args := [d], vars := [g1] }
  | _ => none }
def fnNoiseFairRow : OpenClaim := { program := "ytbaafpfappfkjaadoor", sum := "bda67fe10c776e247f162cb740b413440c1ed22896be18a9392d2b303558ca82", func := "loop.example/obliviousqueries/laws.FnNoiseFair", spec := "fnNoiseFair", named := ["loop.example/obliviousqueries/impl.reserved"], apart := false, laid := [("loop.example/obliviousqueries/impl.reserved", laid_loop_example_obliviousqueries_impl_reserved)] }
def FnNoiseFairSaid : Prop := fnNoiseFairRow.holds Tryd.pinned (OpenSpec.ofChange fnNoiseFairSpec)

/-- ITS FALSE NEIGHBOUR: 'it returns false'. Refute it at one input. -/
def fnNoiseFairWrong : ChangeSpec := { name := "fnNoiseFair", vars := ["loop.example/obliviousqueries/impl.reserved"], fn := fun _ => fun
  | [d, g1] => { results := [.lit (.bool false)], args := [d], vars := [g1] }
  | _ => none }
def FnNoiseFairWrongFalsely : Prop := fnNoiseFairRow.holds Tryd.pinned (OpenSpec.ofChange fnNoiseFairWrong)

/-- 'laws.FnNoiseOf': WHATEVER THE INPUT: true; the input reads as it did. -/
def fnNoiseOfSpec : ChangeSpec := { name := "fnNoiseOf", vars := ["loop.example/obliviousqueries/impl.reserved"], fn := fun _ => fun
  | [d, g1] => { results := [.lit (.bool true)], args := [d], vars := [g1] }
  | _ => none }
def fnNoiseOfRow : OpenClaim := { program := "ytbaafpfappfkjaadoor", sum := "bda67fe10c776e247f162cb740b413440c1ed22896be18a9392d2b303558ca82", func := "loop.example/obliviousqueries/laws.FnNoiseOf", spec := "fnNoiseOf", named := ["loop.example/obliviousqueries/impl.reserved"], apart := false, laid := [("loop.example/obliviousqueries/impl.reserved", laid_loop_example_obliviousqueries_impl_reserved)] }
def FnNoiseOfSaid : Prop := fnNoiseOfRow.holds Tryd.pinned (OpenSpec.ofChange fnNoiseOfSpec)

/-- ITS FALSE NEIGHBOUR: 'it returns false'. Refute it at one input. -/
def fnNoiseOfWrong : ChangeSpec := { name := "fnNoiseOf", vars := ["loop.example/obliviousqueries/impl.reserved"], fn := fun _ => fun
  | [d, g1] => { results := [.lit (.bool false)], args := [d], vars := [g1] }
  | _ => none }
def FnNoiseOfWrongFalsely : Prop := fnNoiseOfRow.holds Tryd.pinned (OpenSpec.ofChange fnNoiseOfWrong)

/-- 'laws.FnLedgerOrder': WHATEVER THE INPUT: true; the input reads as it did. -/
def fnLedgerOrderSpec : ChangeSpec := { name := "fnLedgerOrder", vars := ["loop.example/obliviousqueries/impl.reserved"], fn := fun _ => fun
  | [d, g1] => { results := [.lit (.bool true)], args := [d], vars := [g1] }
  | _ => none }
def fnLedgerOrderRow : OpenClaim := { program := "ytbaafpfappfkjaadoor", sum := "bda67fe10c776e247f162cb740b413440c1ed22896be18a9392d2b303558ca82", func := "loop.example/obliviousqueries/laws.FnLedgerOrder", spec := "fnLedgerOrder", named := ["loop.example/obliviousqueries/impl.reserved"], apart := false, laid := [("loop.example/obliviousqueries/impl.reserved", laid_loop_example_obliviousqueries_impl_reserved)] }
def FnLedgerOrderSaid : Prop := fnLedgerOrderRow.holds Tryd.pinned (OpenSpec.ofChange fnLedgerOrderSpec)

/-- ITS FALSE NEIGHBOUR: 'it returns false'. Refute it at one input. -/
def fnLedgerOrderWrong : ChangeSpec := { name := "fnLedgerOrder", vars := ["loop.example/obliviousqueries/impl.reserved"], fn := fun _ => fun
  | [d, g1] => { results := [.lit (.bool false)], args := [d], vars := [g1] }
  | _ => none }
def FnLedgerOrderWrongFalsely : Prop := fnLedgerOrderRow.holds Tryd.pinned (OpenSpec.ofChange fnLedgerOrderWrong)

/-- 'laws.FnLeftOf': WHATEVER THE INPUT: true; the input reads as it did. -/
def fnLeftOfSpec : ChangeSpec := { name := "fnLeftOf", vars := ["loop.example/obliviousqueries/impl.reserved"], fn := fun _ => fun
  | [d, g1] => { results := [.lit (.bool true)], args := [d], vars := [g1] }
  | _ => none }
def fnLeftOfRow : OpenClaim := { program := "ytbaafpfappfkjaadoor", sum := "bda67fe10c776e247f162cb740b413440c1ed22896be18a9392d2b303558ca82", func := "loop.example/obliviousqueries/laws.FnLeftOf", spec := "fnLeftOf", named := ["loop.example/obliviousqueries/impl.reserved"], apart := false, laid := [("loop.example/obliviousqueries/impl.reserved", laid_loop_example_obliviousqueries_impl_reserved)] }
def FnLeftOfSaid : Prop := fnLeftOfRow.holds Tryd.pinned (OpenSpec.ofChange fnLeftOfSpec)

/-- ITS FALSE NEIGHBOUR: 'it returns false'. Refute it at one input. -/
def fnLeftOfWrong : ChangeSpec := { name := "fnLeftOf", vars := ["loop.example/obliviousqueries/impl.reserved"], fn := fun _ => fun
  | [d, g1] => { results := [.lit (.bool false)], args := [d], vars := [g1] }
  | _ => none }
def FnLeftOfWrongFalsely : Prop := fnLeftOfRow.holds Tryd.pinned (OpenSpec.ofChange fnLeftOfWrong)

/-- 'laws.FnSpendCost': WHATEVER THE INPUT: true; the input reads as it did. -/
def fnSpendCostSpec : ChangeSpec := { name := "fnSpendCost", vars := ["loop.example/obliviousqueries/impl.reserved"], fn := fun _ => fun
  | [d, g1] => { results := [.lit (.bool true)], args := [d], vars := [g1] }
  | _ => none }
def fnSpendCostRow : OpenClaim := { program := "ytbaafpfappfkjaadoor", sum := "bda67fe10c776e247f162cb740b413440c1ed22896be18a9392d2b303558ca82", func := "loop.example/obliviousqueries/laws.FnSpendCost", spec := "fnSpendCost", named := ["loop.example/obliviousqueries/impl.reserved"], apart := false, laid := [("loop.example/obliviousqueries/impl.reserved", laid_loop_example_obliviousqueries_impl_reserved)] }
def FnSpendCostSaid : Prop := fnSpendCostRow.holds Tryd.pinned (OpenSpec.ofChange fnSpendCostSpec)

/-- ITS FALSE NEIGHBOUR: 'it returns false'. Refute it at one input. -/
def fnSpendCostWrong : ChangeSpec := { name := "fnSpendCost", vars := ["loop.example/obliviousqueries/impl.reserved"], fn := fun _ => fun
  | [d, g1] => { results := [.lit (.bool false)], args := [d], vars := [g1] }
  | _ => none }
def FnSpendCostWrongFalsely : Prop := fnSpendCostRow.holds Tryd.pinned (OpenSpec.ofChange fnSpendCostWrong)

/-- 'laws.FnRootOf': WHATEVER THE INPUT: true; the input reads as it did. -/
def fnRootOfSpec : ChangeSpec := { name := "fnRootOf", vars := ["loop.example/obliviousqueries/impl.reserved"], fn := fun _ => fun
  | [d, g1] => { results := [.lit (.bool true)], args := [d], vars := [g1] }
  | _ => none }
def fnRootOfRow : OpenClaim := { program := "ytbaafpfappfkjaadoor", sum := "bda67fe10c776e247f162cb740b413440c1ed22896be18a9392d2b303558ca82", func := "loop.example/obliviousqueries/laws.FnRootOf", spec := "fnRootOf", unfollowed := true, recurses := true, named := ["loop.example/obliviousqueries/impl.reserved"], apart := false, laid := [("loop.example/obliviousqueries/impl.reserved", laid_loop_example_obliviousqueries_impl_reserved)] }
def FnRootOfSaid : Prop := fnRootOfRow.holds Tryd.pinned (OpenSpec.ofChange fnRootOfSpec)

/-- ITS FALSE NEIGHBOUR: 'it returns false'. Refute it at one input. -/
def fnRootOfWrong : ChangeSpec := { name := "fnRootOf", vars := ["loop.example/obliviousqueries/impl.reserved"], fn := fun _ => fun
  | [d, g1] => { results := [.lit (.bool false)], args := [d], vars := [g1] }
  | _ => none }
def FnRootOfWrongFalsely : Prop := fnRootOfRow.holds Tryd.pinned (OpenSpec.ofChange fnRootOfWrong)

/-- 'laws.FnTreeProofs': WHATEVER THE INPUT: true; the input reads as it did. -/
def fnTreeProofsSpec : ChangeSpec := { name := "fnTreeProofs", vars := ["loop.example/obliviousqueries/impl.reserved"], fn := fun _ => fun
  | [d, g1] => { results := [.lit (.bool true)], args := [d], vars := [g1] }
  | _ => none }
def fnTreeProofsRow : OpenClaim := { program := "ytbaafpfappfkjaadoor", sum := "bda67fe10c776e247f162cb740b413440c1ed22896be18a9392d2b303558ca82", func := "loop.example/obliviousqueries/laws.FnTreeProofs", spec := "fnTreeProofs", unfollowed := true, recurses := true, named := ["loop.example/obliviousqueries/impl.reserved"], apart := false, laid := [("loop.example/obliviousqueries/impl.reserved", laid_loop_example_obliviousqueries_impl_reserved)] }
def FnTreeProofsSaid : Prop := fnTreeProofsRow.holds Tryd.pinned (OpenSpec.ofChange fnTreeProofsSpec)

/-- ITS FALSE NEIGHBOUR: 'it returns false'. Refute it at one input. -/
def fnTreeProofsWrong : ChangeSpec := { name := "fnTreeProofs", vars := ["loop.example/obliviousqueries/impl.reserved"], fn := fun _ => fun
  | [d, g1] => { results := [.lit (.bool false)], args := [d], vars := [g1] }
  | _ => none }
def FnTreeProofsWrongFalsely : Prop := fnTreeProofsRow.holds Tryd.pinned (OpenSpec.ofChange fnTreeProofsWrong)

/-- 'laws.FnProofOf': WHATEVER THE INPUT: true; the input reads as it did. -/
def fnProofOfSpec : ChangeSpec := { name := "fnProofOf", vars := ["loop.example/obliviousqueries/impl.reserved"], fn := fun _ => fun
  | [d, g1] => { results := [.lit (.bool true)], args := [d], vars := [g1] }
  | _ => none }
def fnProofOfRow : OpenClaim := { program := "ytbaafpfappfkjaadoor", sum := "bda67fe10c776e247f162cb740b413440c1ed22896be18a9392d2b303558ca82", func := "loop.example/obliviousqueries/laws.FnProofOf", spec := "fnProofOf", unfollowed := true, recurses := true, named := ["loop.example/obliviousqueries/impl.reserved"], apart := false, laid := [("loop.example/obliviousqueries/impl.reserved", laid_loop_example_obliviousqueries_impl_reserved)] }
def FnProofOfSaid : Prop := fnProofOfRow.holds Tryd.pinned (OpenSpec.ofChange fnProofOfSpec)

/-- ITS FALSE NEIGHBOUR: 'it returns false'. Refute it at one input. -/
def fnProofOfWrong : ChangeSpec := { name := "fnProofOf", vars := ["loop.example/obliviousqueries/impl.reserved"], fn := fun _ => fun
  | [d, g1] => { results := [.lit (.bool false)], args := [d], vars := [g1] }
  | _ => none }
def FnProofOfWrongFalsely : Prop := fnProofOfRow.holds Tryd.pinned (OpenSpec.ofChange fnProofOfWrong)

/-- 'laws.FnProofRight': WHATEVER THE INPUT: true; the input reads as it did. -/
def fnProofRightSpec : ChangeSpec := { name := "fnProofRight", vars := ["loop.example/obliviousqueries/impl.reserved"], fn := fun _ => fun
  | [d, g1] => { results := [.lit (.bool true)], args := [d], vars := [g1] }
  | _ => none }
def fnProofRightRow : OpenClaim := { program := "ytbaafpfappfkjaadoor", sum := "bda67fe10c776e247f162cb740b413440c1ed22896be18a9392d2b303558ca82", func := "loop.example/obliviousqueries/laws.FnProofRight", spec := "fnProofRight", unfollowed := true, recurses := true, named := ["loop.example/obliviousqueries/impl.reserved"], apart := false, laid := [("loop.example/obliviousqueries/impl.reserved", laid_loop_example_obliviousqueries_impl_reserved)] }
def FnProofRightSaid : Prop := fnProofRightRow.holds Tryd.pinned (OpenSpec.ofChange fnProofRightSpec)

/-- ITS FALSE NEIGHBOUR: 'it returns false'. Refute it at one input. -/
def fnProofRightWrong : ChangeSpec := { name := "fnProofRight", vars := ["loop.example/obliviousqueries/impl.reserved"], fn := fun _ => fun
  | [d, g1] => { results := [.lit (.bool false)], args := [d], vars := [g1] }
  | _ => none }
def FnProofRightWrongFalsely : Prop := fnProofRightRow.holds Tryd.pinned (OpenSpec.ofChange fnProofRightWrong)

/- THE SECOND FORM. 'bulk': how many values and letters a reading holds, each counted each time it is reached (what is shared counts as often as it is met; a slice's spare places count too). A statement '..UptoSaid' is the law's where the arguments, and the package variables that the reading takes, are together of bulk at most 1048576: NARROWER than '..Said'. Prove '..Said' where nothing that the law and all that it calls make is longer than what came in: it says more and counts as full. Else prove '..UptoSaid'. A law counts once. -/
mutual
def uptoBulk {H : Type} : DataW H → Nat
  | .lit (.string bytes) => bytes.length + 1
  | .lit _ => 1
  | .nil => 1
  | .ptr d => uptoBulk d + 1
  | .slice elems spare => uptoBulkAll elems + uptoBulkAll spare + 1
  | .agg parts => uptoBulkAll parts + 1
  | .iface _ d => uptoBulk d + 1
  | .map entries => uptoBulkEntries entries + 1
  | .held _ => 1
def uptoBulkAll {H : Type} : List (DataW H) → Nat
  | [] => 0
  | d :: r => uptoBulk d + uptoBulkAll r
def uptoBulkEntries {H : Type} : List (Lit × DataW H) → Nat
  | [] => 0
  | x :: r => uptoBulkEntry x + uptoBulkEntries r
def uptoBulkEntry {H : Type} : Lit × DataW H → Nat
  | (.string bytes, d) => bytes.length + uptoBulk d + 1
  | (_, d) => uptoBulk d + 1
 end
def uptoSmall : (H : Type) → List (DataW H) → Bool := fun _ ds => decide (uptoBulkAll ds ≤ 1048576)
def OpenSpec.upto (s : _root_.Go.ChangeSpec) : _root_.Go.OpenSpec := { _root_.Go.OpenSpec.ofChange s with cond := some uptoSmall }

/-- 'laws.FnJoinTags', WHERE WHAT IT READS IS OF BULK AT MOST 1048576: true; the input reads as it did. -/
def fnJoinTagsUptoRow : OpenClaim := { program := "ytbaafpfappfkjaadoor", sum := "bda67fe10c776e247f162cb740b413440c1ed22896be18a9392d2b303558ca82", func := "loop.example/obliviousqueries/laws.FnJoinTags", spec := "fnJoinTags", named := ["loop.example/obliviousqueries/impl.reserved"], apart := false, laid := [("loop.example/obliviousqueries/impl.reserved", laid_loop_example_obliviousqueries_impl_reserved)], narrowed := true }
def FnJoinTagsUptoSaid : Prop := fnJoinTagsUptoRow.holds Tryd.pinned (OpenSpec.upto fnJoinTagsSpec)

/-- 'laws.FnLedgerValid', WHERE WHAT IT READS IS OF BULK AT MOST 1048576: true; the input reads as it did. -/
def fnLedgerValidUptoRow : OpenClaim := { program := "ytbaafpfappfkjaadoor", sum := "bda67fe10c776e247f162cb740b413440c1ed22896be18a9392d2b303558ca82", func := "loop.example/obliviousqueries/laws.FnLedgerValid", spec := "fnLedgerValid", named := ["loop.example/obliviousqueries/impl.reserved"], apart := false, laid := [("loop.example/obliviousqueries/impl.reserved", laid_loop_example_obliviousqueries_impl_reserved)], narrowed := true }
def FnLedgerValidUptoSaid : Prop := fnLedgerValidUptoRow.holds Tryd.pinned (OpenSpec.upto fnLedgerValidSpec)

/-- 'laws.FnNoiseFair', WHERE WHAT IT READS IS OF BULK AT MOST 1048576: true; the input reads as it did. -/
def fnNoiseFairUptoRow : OpenClaim := { program := "ytbaafpfappfkjaadoor", sum := "bda67fe10c776e247f162cb740b413440c1ed22896be18a9392d2b303558ca82", func := "loop.example/obliviousqueries/laws.FnNoiseFair", spec := "fnNoiseFair", named := ["loop.example/obliviousqueries/impl.reserved"], apart := false, laid := [("loop.example/obliviousqueries/impl.reserved", laid_loop_example_obliviousqueries_impl_reserved)], narrowed := true }
def FnNoiseFairUptoSaid : Prop := fnNoiseFairUptoRow.holds Tryd.pinned (OpenSpec.upto fnNoiseFairSpec)

/-- 'laws.FnNoiseOf', WHERE WHAT IT READS IS OF BULK AT MOST 1048576: true; the input reads as it did. -/
def fnNoiseOfUptoRow : OpenClaim := { program := "ytbaafpfappfkjaadoor", sum := "bda67fe10c776e247f162cb740b413440c1ed22896be18a9392d2b303558ca82", func := "loop.example/obliviousqueries/laws.FnNoiseOf", spec := "fnNoiseOf", named := ["loop.example/obliviousqueries/impl.reserved"], apart := false, laid := [("loop.example/obliviousqueries/impl.reserved", laid_loop_example_obliviousqueries_impl_reserved)], narrowed := true }
def FnNoiseOfUptoSaid : Prop := fnNoiseOfUptoRow.holds Tryd.pinned (OpenSpec.upto fnNoiseOfSpec)

/-- 'laws.FnLedgerOrder', WHERE WHAT IT READS IS OF BULK AT MOST 1048576: true; the input reads as it did. -/
def fnLedgerOrderUptoRow : OpenClaim := { program := "ytbaafpfappfkjaadoor", sum := "bda67fe10c776e247f162cb740b413440c1ed22896be18a9392d2b303558ca82", func := "loop.example/obliviousqueries/laws.FnLedgerOrder", spec := "fnLedgerOrder", named := ["loop.example/obliviousqueries/impl.reserved"], apart := false, laid := [("loop.example/obliviousqueries/impl.reserved", laid_loop_example_obliviousqueries_impl_reserved)], narrowed := true }
def FnLedgerOrderUptoSaid : Prop := fnLedgerOrderUptoRow.holds Tryd.pinned (OpenSpec.upto fnLedgerOrderSpec)

/-- 'laws.FnLeftOf', WHERE WHAT IT READS IS OF BULK AT MOST 1048576: true; the input reads as it did. -/
def fnLeftOfUptoRow : OpenClaim := { program := "ytbaafpfappfkjaadoor", sum := "bda67fe10c776e247f162cb740b413440c1ed22896be18a9392d2b303558ca82", func := "loop.example/obliviousqueries/laws.FnLeftOf", spec := "fnLeftOf", named := ["loop.example/obliviousqueries/impl.reserved"], apart := false, laid := [("loop.example/obliviousqueries/impl.reserved", laid_loop_example_obliviousqueries_impl_reserved)], narrowed := true }
def FnLeftOfUptoSaid : Prop := fnLeftOfUptoRow.holds Tryd.pinned (OpenSpec.upto fnLeftOfSpec)

/-- 'laws.FnSpendCost', WHERE WHAT IT READS IS OF BULK AT MOST 1048576: true; the input reads as it did. -/
def fnSpendCostUptoRow : OpenClaim := { program := "ytbaafpfappfkjaadoor", sum := "bda67fe10c776e247f162cb740b413440c1ed22896be18a9392d2b303558ca82", func := "loop.example/obliviousqueries/laws.FnSpendCost", spec := "fnSpendCost", named := ["loop.example/obliviousqueries/impl.reserved"], apart := false, laid := [("loop.example/obliviousqueries/impl.reserved", laid_loop_example_obliviousqueries_impl_reserved)], narrowed := true }
def FnSpendCostUptoSaid : Prop := fnSpendCostUptoRow.holds Tryd.pinned (OpenSpec.upto fnSpendCostSpec)

/-- 'laws.FnRootOf', WHERE WHAT IT READS IS OF BULK AT MOST 1048576: true; the input reads as it did. -/
def fnRootOfUptoRow : OpenClaim := { program := "ytbaafpfappfkjaadoor", sum := "bda67fe10c776e247f162cb740b413440c1ed22896be18a9392d2b303558ca82", func := "loop.example/obliviousqueries/laws.FnRootOf", spec := "fnRootOf", unfollowed := true, recurses := true, named := ["loop.example/obliviousqueries/impl.reserved"], apart := false, laid := [("loop.example/obliviousqueries/impl.reserved", laid_loop_example_obliviousqueries_impl_reserved)], narrowed := true }
def FnRootOfUptoSaid : Prop := fnRootOfUptoRow.holds Tryd.pinned (OpenSpec.upto fnRootOfSpec)

/-- 'laws.FnTreeProofs', WHERE WHAT IT READS IS OF BULK AT MOST 1048576: true; the input reads as it did. -/
def fnTreeProofsUptoRow : OpenClaim := { program := "ytbaafpfappfkjaadoor", sum := "bda67fe10c776e247f162cb740b413440c1ed22896be18a9392d2b303558ca82", func := "loop.example/obliviousqueries/laws.FnTreeProofs", spec := "fnTreeProofs", unfollowed := true, recurses := true, named := ["loop.example/obliviousqueries/impl.reserved"], apart := false, laid := [("loop.example/obliviousqueries/impl.reserved", laid_loop_example_obliviousqueries_impl_reserved)], narrowed := true }
def FnTreeProofsUptoSaid : Prop := fnTreeProofsUptoRow.holds Tryd.pinned (OpenSpec.upto fnTreeProofsSpec)

/-- 'laws.FnProofOf', WHERE WHAT IT READS IS OF BULK AT MOST 1048576: true; the input reads as it did. -/
def fnProofOfUptoRow : OpenClaim := { program := "ytbaafpfappfkjaadoor", sum := "bda67fe10c776e247f162cb740b413440c1ed22896be18a9392d2b303558ca82", func := "loop.example/obliviousqueries/laws.FnProofOf", spec := "fnProofOf", unfollowed := true, recurses := true, named := ["loop.example/obliviousqueries/impl.reserved"], apart := false, laid := [("loop.example/obliviousqueries/impl.reserved", laid_loop_example_obliviousqueries_impl_reserved)], narrowed := true }
def FnProofOfUptoSaid : Prop := fnProofOfUptoRow.holds Tryd.pinned (OpenSpec.upto fnProofOfSpec)

/-- 'laws.FnProofRight', WHERE WHAT IT READS IS OF BULK AT MOST 1048576: true; the input reads as it did. -/
def fnProofRightUptoRow : OpenClaim := { program := "ytbaafpfappfkjaadoor", sum := "bda67fe10c776e247f162cb740b413440c1ed22896be18a9392d2b303558ca82", func := "loop.example/obliviousqueries/laws.FnProofRight", spec := "fnProofRight", unfollowed := true, recurses := true, named := ["loop.example/obliviousqueries/impl.reserved"], apart := false, laid := [("loop.example/obliviousqueries/impl.reserved", laid_loop_example_obliviousqueries_impl_reserved)], narrowed := true }
def FnProofRightUptoSaid : Prop := fnProofRightUptoRow.holds Tryd.pinned (OpenSpec.upto fnProofRightSpec)

end Rows
end Go.Proofs.YtbaafpfappfkjaaDoor
