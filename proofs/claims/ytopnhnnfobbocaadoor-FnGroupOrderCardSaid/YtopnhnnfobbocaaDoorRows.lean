/-
  NARROWER THAN 'FOR EVERY INPUT', by the rows' own cells (each row's printed sentence says how): FnPathsFor: laid · FnExactFindTable: laid · FnSortRows: laid · FnSameBag: laid · FnExactSameBag: laid · FnGroupOrder: laid · FnExactSortRows: laid · FnOrderRows: laid · FnBagOrder: laid · FnExactOrderRows: laid · FnSortPadded: laid.
  DERIVED. THE GIVEN ROWS OF THIS SEAT. 11 by the template 'for every input the law returns true; each argument reads behind the call as it read before'; 0 by the template 'total and deterministic' (their statements: YtopnhnnfobbocaaDoorTotals.lean).
  GIVEN WITH THE SEED: the statements are not yours to turn. If you find one false, say at which input.
  Laid BY PROGRAM, IN A SANDBOX (cutbox-rows.mjs): the forced cells as the released guide's own fill.sh prints them over the translation d18da4a3e4aa1bd3… (all of the seat's roots in one cut). By AI agents, Wed Nov 11 2026. No macro, syntax, notation, axiom, sorry.
-/
import Derived.Test.YtopnhnnfobbocaaDoorChecked
import GoSem.Claim
import GoSem.ClaimJoined
import GoSem.ClaimMapViews
import Derived.JoinedTies
import Derived.KernelRfl
namespace Go.Proofs.YtopnhnnfobbocaaDoor
/- THE CELL 'sum', in the pinned program and in every row, IS THE sha256 OF THE DUMP (.gsa) THAT YtopnhnnfobbocaaDoorProg.lean LOADS. Nothing in Lean hashes anything: it is a label: what it is worth is what the hold of that sum in a sandbox is worth. -/
noncomputable def Tryd.pinned : Pinned := { name := "ytopnhnnfobbocaadoor", sum := "d18da4a3e4aa1bd3b9f9809e6958ddb19c1191cfef7e111927cee4eb6eb2aac1", checked := Tryd.checked }
namespace Rows
def none {H : Type} : Left H := { results := [], args := [] }

/- WHAT THE LISTED PACKAGE-LEVEL VARIABLES READ AS WHEN THE CALL BEGINS. Each datum BY PROGRAM (the guide's laid-datum.mjs) off the statement by which the dump's own 'gosem.cut.vars' lays the variable. In a bare row this is a premise. The card (YtopnhnnfobbocaaDoorCards.lean) ties it to the program's text. -/
def laid_loop_example_obliviousqueries_impl_reserved {H : Type} : DataW H := .slice [.lit (.string [115, 101, 108, 101, 99, 116]), .lit (.string [102, 114, 111, 109]), .lit (.string [106, 111, 105, 110]), .lit (.string [111, 110]), .lit (.string [119, 104, 101, 114, 101]), .lit (.string [97, 110, 100]), .lit (.string [111, 114]), .lit (.string [103, 114, 111, 117, 112]), .lit (.string [98, 121]), .lit (.string [115, 117, 109]), .lit (.string [111, 114, 100, 101, 114]), .lit (.string [100, 111, 119, 110]), .lit (.string [108, 105, 109, 105, 116])] []

/-- 'laws.FnPathsFor': WHATEVER THE INPUT: true; the input reads as it did. -/
def fnPathsForSpec : ChangeSpec := { name := "fnPathsFor", vars := ["loop.example/obliviousqueries/impl.reserved"], fn := fun _ => fun
  | [d, g1] => { results := [.lit (.bool true)], args := [d], vars := [g1] }
  | _ => none }
def fnPathsForRow : OpenClaim := { program := "ytopnhnnfobbocaadoor", sum := "d18da4a3e4aa1bd3b9f9809e6958ddb19c1191cfef7e111927cee4eb6eb2aac1", func := "loop.example/obliviousqueries/laws.FnPathsFor", spec := "fnPathsFor", unfollowed := true, recurses := true, named := ["loop.example/obliviousqueries/impl.reserved"], apart := false, laid := [("loop.example/obliviousqueries/impl.reserved", laid_loop_example_obliviousqueries_impl_reserved)] }
def FnPathsForSaid : Prop := fnPathsForRow.holds Tryd.pinned (OpenSpec.ofChange fnPathsForSpec)

/-- ITS FALSE NEIGHBOUR: 'it returns false'. Refute it at one input. -/
def fnPathsForWrong : ChangeSpec := { name := "fnPathsFor", vars := ["loop.example/obliviousqueries/impl.reserved"], fn := fun _ => fun
  | [d, g1] => { results := [.lit (.bool false)], args := [d], vars := [g1] }
  | _ => none }
def FnPathsForWrongFalsely : Prop := fnPathsForRow.holds Tryd.pinned (OpenSpec.ofChange fnPathsForWrong)

/-- 'laws.FnExactFindTable': WHATEVER THE INPUT: true; the input reads as it did. -/
def fnExactFindTableSpec : ChangeSpec := { name := "fnExactFindTable", vars := ["loop.example/obliviousqueries/impl.reserved"], fn := fun _ => fun
  | [d1, d2, g1] => { results := [.lit (.bool true)], args := [d1, d2], vars := [g1] }
  | _ => none }
def fnExactFindTableRow : OpenClaim := { program := "ytopnhnnfobbocaadoor", sum := "d18da4a3e4aa1bd3b9f9809e6958ddb19c1191cfef7e111927cee4eb6eb2aac1", func := "loop.example/obliviousqueries/laws.FnExactFindTable", spec := "fnExactFindTable", unfollowed := true, recurses := true, named := ["loop.example/obliviousqueries/impl.reserved"], apart := false, laid := [("loop.example/obliviousqueries/impl.reserved", laid_loop_example_obliviousqueries_impl_reserved)] }
def FnExactFindTableSaid : Prop := fnExactFindTableRow.holds Tryd.pinned (OpenSpec.ofChange fnExactFindTableSpec)

/-- ITS FALSE NEIGHBOUR: 'it returns false'. Refute it at one input. -/
def fnExactFindTableWrong : ChangeSpec := { name := "fnExactFindTable", vars := ["loop.example/obliviousqueries/impl.reserved"], fn := fun _ => fun
  | [d1, d2, g1] => { results := [.lit (.bool false)], args := [d1, d2], vars := [g1] }
  | _ => none }
def FnExactFindTableWrongFalsely : Prop := fnExactFindTableRow.holds Tryd.pinned (OpenSpec.ofChange fnExactFindTableWrong)

/-- 'laws.FnSortRows': WHATEVER THE INPUT: true; the input reads as it did. -/
def fnSortRowsSpec : ChangeSpec := { name := "fnSortRows", vars := ["loop.example/obliviousqueries/impl.reserved"], fn := fun _ => fun
  | [d, g1] => { results := [.lit (.bool true)], args := [d], vars := [g1] }
  | _ => none }
def fnSortRowsRow : OpenClaim := { program := "ytopnhnnfobbocaadoor", sum := "d18da4a3e4aa1bd3b9f9809e6958ddb19c1191cfef7e111927cee4eb6eb2aac1", func := "loop.example/obliviousqueries/laws.FnSortRows", spec := "fnSortRows", unfollowed := true, recurses := true, named := ["loop.example/obliviousqueries/impl.reserved"], apart := false, laid := [("loop.example/obliviousqueries/impl.reserved", laid_loop_example_obliviousqueries_impl_reserved)] }
def FnSortRowsSaid : Prop := fnSortRowsRow.holds Tryd.pinned (OpenSpec.ofChange fnSortRowsSpec)

/-- ITS FALSE NEIGHBOUR: 'it returns false'. Refute it at one input. -/
def fnSortRowsWrong : ChangeSpec := { name := "fnSortRows", vars := ["loop.example/obliviousqueries/impl.reserved"], fn := fun _ => fun
  | [d, g1] => { results := [.lit (.bool false)], args := [d], vars := [g1] }
  | _ => none }
def FnSortRowsWrongFalsely : Prop := fnSortRowsRow.holds Tryd.pinned (OpenSpec.ofChange fnSortRowsWrong)

/-- 'laws.FnSameBag': WHATEVER THE INPUT: true; the input reads as it did. -/
def fnSameBagSpec : ChangeSpec := { name := "fnSameBag", vars := ["loop.example/obliviousqueries/impl.reserved"], fn := fun _ => fun
  | [d, g1] => { results := [.lit (.bool true)], args := [d], vars := [g1] }
  | _ => none }
def fnSameBagRow : OpenClaim := { program := "ytopnhnnfobbocaadoor", sum := "d18da4a3e4aa1bd3b9f9809e6958ddb19c1191cfef7e111927cee4eb6eb2aac1", func := "loop.example/obliviousqueries/laws.FnSameBag", spec := "fnSameBag", unfollowed := true, recurses := true, named := ["loop.example/obliviousqueries/impl.reserved"], apart := false, laid := [("loop.example/obliviousqueries/impl.reserved", laid_loop_example_obliviousqueries_impl_reserved)] }
def FnSameBagSaid : Prop := fnSameBagRow.holds Tryd.pinned (OpenSpec.ofChange fnSameBagSpec)

/-- ITS FALSE NEIGHBOUR: 'it returns false'. Refute it at one input. -/
def fnSameBagWrong : ChangeSpec := { name := "fnSameBag", vars := ["loop.example/obliviousqueries/impl.reserved"], fn := fun _ => fun
  | [d, g1] => { results := [.lit (.bool false)], args := [d], vars := [g1] }
  | _ => none }
def FnSameBagWrongFalsely : Prop := fnSameBagRow.holds Tryd.pinned (OpenSpec.ofChange fnSameBagWrong)

/-- 'laws.FnExactSameBag': WHATEVER THE INPUT: true; the input reads as it did. -/
def fnExactSameBagSpec : ChangeSpec := { name := "fnExactSameBag", vars := ["loop.example/obliviousqueries/impl.reserved"], fn := fun _ => fun
  | [d1, d2, g1] => { results := [.lit (.bool true)], args := [d1, d2], vars := [g1] }
  | _ => none }
def fnExactSameBagRow : OpenClaim := { program := "ytopnhnnfobbocaadoor", sum := "d18da4a3e4aa1bd3b9f9809e6958ddb19c1191cfef7e111927cee4eb6eb2aac1", func := "loop.example/obliviousqueries/laws.FnExactSameBag", spec := "fnExactSameBag", unfollowed := true, recurses := true, named := ["loop.example/obliviousqueries/impl.reserved"], apart := false, laid := [("loop.example/obliviousqueries/impl.reserved", laid_loop_example_obliviousqueries_impl_reserved)] }
def FnExactSameBagSaid : Prop := fnExactSameBagRow.holds Tryd.pinned (OpenSpec.ofChange fnExactSameBagSpec)

/-- ITS FALSE NEIGHBOUR: 'it returns false'. Refute it at one input. -/
def fnExactSameBagWrong : ChangeSpec := { name := "fnExactSameBag", vars := ["loop.example/obliviousqueries/impl.reserved"], fn := fun _ => fun
  | [d1, d2, g1] => { results := [.lit (.bool false)], args := [d1, d2], vars := [g1] }
  | _ => none }
def FnExactSameBagWrongFalsely : Prop := fnExactSameBagRow.holds Tryd.pinned (OpenSpec.ofChange fnExactSameBagWrong)

/-- 'laws.FnGroupOrder': WHATEVER THE INPUT: true; the input reads as it did. -/
def fnGroupOrderSpec : ChangeSpec := { name := "fnGroupOrder", vars := ["loop.example/obliviousqueries/impl.reserved"], fn := fun _ => fun
  | [d, g1] => { results := [.lit (.bool true)], args := [d], vars := [g1] }
  | _ => none }
def fnGroupOrderRow : OpenClaim := { program := "ytopnhnnfobbocaadoor", sum := "d18da4a3e4aa1bd3b9f9809e6958ddb19c1191cfef7e111927cee4eb6eb2aac1", func := "loop.example/obliviousqueries/laws.FnGroupOrder", spec := "fnGroupOrder", unfollowed := true, recurses := true, named := ["loop.example/obliviousqueries/impl.reserved"], apart := false, laid := [("loop.example/obliviousqueries/impl.reserved", laid_loop_example_obliviousqueries_impl_reserved)] }
def FnGroupOrderSaid : Prop := fnGroupOrderRow.holds Tryd.pinned (OpenSpec.ofChange fnGroupOrderSpec)

/-- ITS FALSE NEIGHBOUR: 'it returns false'. Refute it at one input. -/
def fnGroupOrderWrong : ChangeSpec := { name := "fnGroupOrder", vars := ["loop.example/obliviousqueries/impl.reserved"], fn := fun _ => fun
  | [d, g1] => { results := [.lit (.bool false)], args := [d], vars := [g1] }
  | _ => none }
def FnGroupOrderWrongFalsely : Prop := fnGroupOrderRow.holds Tryd.pinned (OpenSpec.ofChange fnGroupOrderWrong)

/-- 'laws.FnExactSortRows': WHATEVER THE INPUT: true; the input reads as it did. -/
def fnExactSortRowsSpec : ChangeSpec := { name := "fnExactSortRows", vars := ["loop.example/obliviousqueries/impl.reserved"], fn := fun _ => fun
  | [d, g1] => { results := [.lit (.bool true)], args := [d], vars := [g1] }
  | _ => none }
def fnExactSortRowsRow : OpenClaim := { program := "ytopnhnnfobbocaadoor", sum := "d18da4a3e4aa1bd3b9f9809e6958ddb19c1191cfef7e111927cee4eb6eb2aac1", func := "loop.example/obliviousqueries/laws.FnExactSortRows", spec := "fnExactSortRows", unfollowed := true, recurses := true, named := ["loop.example/obliviousqueries/impl.reserved"], apart := false, laid := [("loop.example/obliviousqueries/impl.reserved", laid_loop_example_obliviousqueries_impl_reserved)] }
def FnExactSortRowsSaid : Prop := fnExactSortRowsRow.holds Tryd.pinned (OpenSpec.ofChange fnExactSortRowsSpec)

/-- ITS FALSE NEIGHBOUR: 'it returns false'. Refute it at one input. -/
def fnExactSortRowsWrong : ChangeSpec := { name := "fnExactSortRows", vars := ["loop.example/obliviousqueries/impl.reserved"], fn := fun _ => fun
  | [d, g1] => { results := [.lit (.bool false)], args := [d], vars := [g1] }
  | _ => none }
def FnExactSortRowsWrongFalsely : Prop := fnExactSortRowsRow.holds Tryd.pinned (OpenSpec.ofChange fnExactSortRowsWrong)

/-- 'laws.FnOrderRows': WHATEVER THE INPUT: true; the input reads as it did. -/
def fnOrderRowsSpec : ChangeSpec := { name := "fnOrderRows", vars := ["loop.example/obliviousqueries/impl.reserved"], fn := fun _ => fun
  | [d, g1] => { results := [.lit (.bool true)], args := [d], vars := [g1] }
  | _ => none }
def fnOrderRowsRow : OpenClaim := { program := "ytopnhnnfobbocaadoor", sum := "d18da4a3e4aa1bd3b9f9809e6958ddb19c1191cfef7e111927cee4eb6eb2aac1", func := "loop.example/obliviousqueries/laws.FnOrderRows", spec := "fnOrderRows", unfollowed := true, recurses := true, named := ["loop.example/obliviousqueries/impl.reserved"], apart := false, laid := [("loop.example/obliviousqueries/impl.reserved", laid_loop_example_obliviousqueries_impl_reserved)] }
def FnOrderRowsSaid : Prop := fnOrderRowsRow.holds Tryd.pinned (OpenSpec.ofChange fnOrderRowsSpec)

/-- ITS FALSE NEIGHBOUR: 'it returns false'. Refute it at one input. -/
def fnOrderRowsWrong : ChangeSpec := { name := "fnOrderRows", vars := ["loop.example/obliviousqueries/impl.reserved"], fn := fun _ => fun
  | [d, g1] => { results := [.lit (.bool false)], args := [d], vars := [g1] }
  | _ => none }
def FnOrderRowsWrongFalsely : Prop := fnOrderRowsRow.holds Tryd.pinned (OpenSpec.ofChange fnOrderRowsWrong)

/-- 'laws.FnBagOrder': WHATEVER THE INPUT: true; the input reads as it did. -/
def fnBagOrderSpec : ChangeSpec := { name := "fnBagOrder", vars := ["loop.example/obliviousqueries/impl.reserved"], fn := fun _ => fun
  | [d, g1] => { results := [.lit (.bool true)], args := [d], vars := [g1] }
  | _ => none }
def fnBagOrderRow : OpenClaim := { program := "ytopnhnnfobbocaadoor", sum := "d18da4a3e4aa1bd3b9f9809e6958ddb19c1191cfef7e111927cee4eb6eb2aac1", func := "loop.example/obliviousqueries/laws.FnBagOrder", spec := "fnBagOrder", unfollowed := true, recurses := true, named := ["loop.example/obliviousqueries/impl.reserved"], apart := false, laid := [("loop.example/obliviousqueries/impl.reserved", laid_loop_example_obliviousqueries_impl_reserved)] }
def FnBagOrderSaid : Prop := fnBagOrderRow.holds Tryd.pinned (OpenSpec.ofChange fnBagOrderSpec)

/-- ITS FALSE NEIGHBOUR: 'it returns false'. Refute it at one input. -/
def fnBagOrderWrong : ChangeSpec := { name := "fnBagOrder", vars := ["loop.example/obliviousqueries/impl.reserved"], fn := fun _ => fun
  | [d, g1] => { results := [.lit (.bool false)], args := [d], vars := [g1] }
  | _ => none }
def FnBagOrderWrongFalsely : Prop := fnBagOrderRow.holds Tryd.pinned (OpenSpec.ofChange fnBagOrderWrong)

/-- 'laws.FnExactOrderRows': WHATEVER THE INPUT: true; the input reads as it did. -/
def fnExactOrderRowsSpec : ChangeSpec := { name := "fnExactOrderRows", vars := ["loop.example/obliviousqueries/impl.reserved"], fn := fun _ => fun
  | [d1, d2, d3, g1] => { results := [.lit (.bool true)], args := [d1, d2, d3], vars := [g1] }
  | _ => none }
def fnExactOrderRowsRow : OpenClaim := { program := "ytopnhnnfobbocaadoor", sum := "d18da4a3e4aa1bd3b9f9809e6958ddb19c1191cfef7e111927cee4eb6eb2aac1", func := "loop.example/obliviousqueries/laws.FnExactOrderRows", spec := "fnExactOrderRows", unfollowed := true, recurses := true, named := ["loop.example/obliviousqueries/impl.reserved"], apart := false, laid := [("loop.example/obliviousqueries/impl.reserved", laid_loop_example_obliviousqueries_impl_reserved)] }
def FnExactOrderRowsSaid : Prop := fnExactOrderRowsRow.holds Tryd.pinned (OpenSpec.ofChange fnExactOrderRowsSpec)

/-- ITS FALSE NEIGHBOUR: 'it returns false'. Refute it at one input. -/
def fnExactOrderRowsWrong : ChangeSpec := { name := "fnExactOrderRows", vars := ["loop.example/obliviousqueries/impl.reserved"], fn := fun _ => fun
  | [d1, d2, d3, g1] => { results := [.lit (.bool false)], args := [d1, d2, d3], vars := [g1] }
  | _ => none }
def FnExactOrderRowsWrongFalsely : Prop := fnExactOrderRowsRow.holds Tryd.pinned (OpenSpec.ofChange fnExactOrderRowsWrong)

/-- 'laws.FnSortPadded': WHATEVER THE INPUT: true; the input reads as it did. -/
def fnSortPaddedSpec : ChangeSpec := { name := "fnSortPadded", vars := ["loop.example/obliviousqueries/impl.reserved"], fn := fun _ => fun
  | [d, g1] => { results := [.lit (.bool true)], args := [d], vars := [g1] }
  | _ => none }
def fnSortPaddedRow : OpenClaim := { program := "ytopnhnnfobbocaadoor", sum := "d18da4a3e4aa1bd3b9f9809e6958ddb19c1191cfef7e111927cee4eb6eb2aac1", func := "loop.example/obliviousqueries/laws.FnSortPadded", spec := "fnSortPadded", unfollowed := true, recurses := true, named := ["loop.example/obliviousqueries/impl.reserved"], apart := false, laid := [("loop.example/obliviousqueries/impl.reserved", laid_loop_example_obliviousqueries_impl_reserved)] }
def FnSortPaddedSaid : Prop := fnSortPaddedRow.holds Tryd.pinned (OpenSpec.ofChange fnSortPaddedSpec)

/-- ITS FALSE NEIGHBOUR: 'it returns false'. Refute it at one input. -/
def fnSortPaddedWrong : ChangeSpec := { name := "fnSortPadded", vars := ["loop.example/obliviousqueries/impl.reserved"], fn := fun _ => fun
  | [d, g1] => { results := [.lit (.bool false)], args := [d], vars := [g1] }
  | _ => none }
def FnSortPaddedWrongFalsely : Prop := fnSortPaddedRow.holds Tryd.pinned (OpenSpec.ofChange fnSortPaddedWrong)

/- THE SECOND FORM. 'bulk': how many values and letters a reading holds, each counted each time it is reached (what is shared counts as often as it is met; a slice's spare places count too). A statement '..UptoSaid' is the law's where the arguments, and the package variables that the reading takes, are together of bulk at most 1048576: NARROWER than '..Said'. Prove '..Said' where nothing that the law and all that it calls make is longer than what came in: it says more and counts as full. Else prove '..UptoSaid'. A law counts once. -/
mutual
def uptoBulk {H : Type} : DataW H → Nat
  | .lit (.string bytes) => bytes.length + 1
  | .lit _ => 1
  | .nil => 1
  | .ptr d => uptoBulk d + 1
  | .slice elems spare => uptoBulkAll elems + uptoBulkAll spare + 1
  | .agg parts => uptoBulkAll parts + 1
  | .iface _ d => uptoBulk d + 1
  | .map entries => uptoBulkEntries entries + 1
  | .held _ => 1
def uptoBulkAll {H : Type} : List (DataW H) → Nat
  | [] => 0
  | d :: r => uptoBulk d + uptoBulkAll r
def uptoBulkEntries {H : Type} : List (Lit × DataW H) → Nat
  | [] => 0
  | x :: r => uptoBulkEntry x + uptoBulkEntries r
def uptoBulkEntry {H : Type} : Lit × DataW H → Nat
  | (.string bytes, d) => bytes.length + uptoBulk d + 1
  | (_, d) => uptoBulk d + 1
 end
def uptoSmall : (H : Type) → List (DataW H) → Bool := fun _ ds => decide (uptoBulkAll ds ≤ 1048576)
def OpenSpec.upto (s : _root_.Go.ChangeSpec) : _root_.Go.OpenSpec := { _root_.Go.OpenSpec.ofChange s with cond := some uptoSmall }

/-- 'laws.FnPathsFor', WHERE WHAT IT READS IS OF BULK AT MOST 1048576: true; the input reads as it did. -/
def fnPathsForUptoRow : OpenClaim := { program := "ytopnhnnfobbocaadoor", sum := "d18da4a3e4aa1bd3b9f9809e6958ddb19c1191cfef7e111927cee4eb6eb2aac1", func := "loop.example/obliviousqueries/laws.FnPathsFor", spec := "fnPathsFor", unfollowed := true, recurses := true, named := ["loop.example/obliviousqueries/impl.reserved"], apart := false, laid := [("loop.example/obliviousqueries/impl.reserved", laid_loop_example_obliviousqueries_impl_reserved)], narrowed := true }
def FnPathsForUptoSaid : Prop := fnPathsForUptoRow.holds Tryd.pinned (OpenSpec.upto fnPathsForSpec)

/-- 'laws.FnExactFindTable', WHERE WHAT IT READS IS OF BULK AT MOST 1048576: true; the input reads as it did. -/
def fnExactFindTableUptoRow : OpenClaim := { program := "ytopnhnnfobbocaadoor", sum := "d18da4a3e4aa1bd3b9f9809e6958ddb19c1191cfef7e111927cee4eb6eb2aac1", func := "loop.example/obliviousqueries/laws.FnExactFindTable", spec := "fnExactFindTable", unfollowed := true, recurses := true, named := ["loop.example/obliviousqueries/impl.reserved"], apart := false, laid := [("loop.example/obliviousqueries/impl.reserved", laid_loop_example_obliviousqueries_impl_reserved)], narrowed := true }
def FnExactFindTableUptoSaid : Prop := fnExactFindTableUptoRow.holds Tryd.pinned (OpenSpec.upto fnExactFindTableSpec)

/-- 'laws.FnSortRows', WHERE WHAT IT READS IS OF BULK AT MOST 1048576: true; the input reads as it did. -/
def fnSortRowsUptoRow : OpenClaim := { program := "ytopnhnnfobbocaadoor", sum := "d18da4a3e4aa1bd3b9f9809e6958ddb19c1191cfef7e111927cee4eb6eb2aac1", func := "loop.example/obliviousqueries/laws.FnSortRows", spec := "fnSortRows", unfollowed := true, recurses := true, named := ["loop.example/obliviousqueries/impl.reserved"], apart := false, laid := [("loop.example/obliviousqueries/impl.reserved", laid_loop_example_obliviousqueries_impl_reserved)], narrowed := true }
def FnSortRowsUptoSaid : Prop := fnSortRowsUptoRow.holds Tryd.pinned (OpenSpec.upto fnSortRowsSpec)

/-- 'laws.FnSameBag', WHERE WHAT IT READS IS OF BULK AT MOST 1048576: true; the input reads as it did. -/
def fnSameBagUptoRow : OpenClaim := { program := "ytopnhnnfobbocaadoor", sum := "d18da4a3e4aa1bd3b9f9809e6958ddb19c1191cfef7e111927cee4eb6eb2aac1", func := "loop.example/obliviousqueries/laws.FnSameBag", spec := "fnSameBag", unfollowed := true, recurses := true, named := ["loop.example/obliviousqueries/impl.reserved"], apart := false, laid := [("loop.example/obliviousqueries/impl.reserved", laid_loop_example_obliviousqueries_impl_reserved)], narrowed := true }
def FnSameBagUptoSaid : Prop := fnSameBagUptoRow.holds Tryd.pinned (OpenSpec.upto fnSameBagSpec)

/-- 'laws.FnExactSameBag', WHERE WHAT IT READS IS OF BULK AT MOST 1048576: true; the input reads as it did. -/
def fnExactSameBagUptoRow : OpenClaim := { program := "ytopnhnnfobbocaadoor", sum := "d18da4a3e4aa1bd3b9f9809e6958ddb19c1191cfef7e111927cee4eb6eb2aac1", func := "loop.example/obliviousqueries/laws.FnExactSameBag", spec := "fnExactSameBag", unfollowed := true, recurses := true, named := ["loop.example/obliviousqueries/impl.reserved"], apart := false, laid := [("loop.example/obliviousqueries/impl.reserved", laid_loop_example_obliviousqueries_impl_reserved)], narrowed := true }
def FnExactSameBagUptoSaid : Prop := fnExactSameBagUptoRow.holds Tryd.pinned (OpenSpec.upto fnExactSameBagSpec)

/-- 'laws.FnGroupOrder', WHERE WHAT IT READS IS OF BULK AT MOST 1048576: true; the input reads as it did. -/
def fnGroupOrderUptoRow : OpenClaim := { program := "ytopnhnnfobbocaadoor", sum := "d18da4a3e4aa1bd3b9f9809e6958ddb19c1191cfef7e111927cee4eb6eb2aac1", func := "loop.example/obliviousqueries/laws.FnGroupOrder", spec := "fnGroupOrder", unfollowed := true, recurses := true, named := ["loop.example/obliviousqueries/impl.reserved"], apart := false, laid := [("loop.example/obliviousqueries/impl.reserved", laid_loop_example_obliviousqueries_impl_reserved)], narrowed := true }
def FnGroupOrderUptoSaid : Prop := fnGroupOrderUptoRow.holds Tryd.pinned (OpenSpec.upto fnGroupOrderSpec)

/-- 'laws.FnExactSortRows', WHERE WHAT IT READS IS OF BULK AT MOST 1048576: true; the input reads as it did. -/
def fnExactSortRowsUptoRow : OpenClaim := { program := "ytopnhnnfobbocaadoor", sum := "d18da4a3e4aa1bd3b9f9809e6958ddb19c1191cfef7e111927cee4eb6eb2aac1", func := "loop.example/obliviousqueries/laws.FnExactSortRows", spec := "fnExactSortRows", unfollowed := true, recurses := true, named := ["loop.example/obliviousqueries/impl.reserved"], apart := false, laid := [("loop.example/obliviousqueries/impl.reserved", laid_loop_example_obliviousqueries_impl_reserved)], narrowed := true }
def FnExactSortRowsUptoSaid : Prop := fnExactSortRowsUptoRow.holds Tryd.pinned (OpenSpec.upto fnExactSortRowsSpec)

/-- 'laws.FnOrderRows', WHERE WHAT IT READS IS OF BULK AT MOST 1048576: true; the input reads as it did. -/
def fnOrderRowsUptoRow : OpenClaim := { program := "ytopnhnnfobbocaadoor", sum := "d18da4a3e4aa1bd3b9f9809e6958ddb19c1191cfef7e111927cee4eb6eb2aac1", func := "loop.example/obliviousqueries/laws.FnOrderRows", spec := "fnOrderRows", unfollowed := true, recurses := true, named := ["loop.example/obliviousqueries/impl.reserved"], apart := false, laid := [("loop.example/obliviousqueries/impl.reserved", laid_loop_example_obliviousqueries_impl_reserved)], narrowed := true }
def FnOrderRowsUptoSaid : Prop := fnOrderRowsUptoRow.holds Tryd.pinned (OpenSpec.upto fnOrderRowsSpec)

/-- 'laws.FnBagOrder', WHERE WHAT IT READS IS OF BULK AT MOST 1048576: true; the input reads as it did. -/
def fnBagOrderUptoRow : OpenClaim := { program := "ytopnhnnfobbocaadoor", sum := "d18da4a3e4aa1bd3b9f9809e6958ddb19c1191cfef7e111927cee4eb6eb2aac1", func := "loop.example/obliviousqueries/laws.FnBagOrder", spec := "fnBagOrder", unfollowed := true, recurses := true, named := ["loop.example/obliviousqueries/impl.reserved"], apart := false, laid := [("loop.example/obliviousqueries/impl.reserved", laid_loop_example_obliviousqueries_impl_reserved)], narrowed := true }
def FnBagOrderUptoSaid : Prop := fnBagOrderUptoRow.holds Tryd.pinned (OpenSpec.upto fnBagOrderSpec)

/-- 'laws.FnExactOrderRows', WHERE WHAT IT READS IS OF BULK AT MOST 1048576: true; the input reads as it did. -/
def fnExactOrderRowsUptoRow : OpenClaim := { program := "ytopnhnnfobbocaadoor", sum := "d18da4a3e4aa1bd3b9f9809e6958ddb19c1191cfef7e111927cee4eb6eb2aac1", func := "loop.example/obliviousqueries/laws.FnExactOrderRows", spec := "fnExactOrderRows", unfollowed := true, recurses := true, named := ["loop.example/obliviousqueries/impl.reserved"], apart := false, laid := [("loop.example/obliviousqueries/impl.reserved", laid_loop_example_obliviousqueries_impl_reserved)], narrowed := true }
def FnExactOrderRowsUptoSaid : Prop := fnExactOrderRowsUptoRow.holds Tryd.pinned (OpenSpec.upto fnExactOrderRowsSpec)

/-- 'laws.FnSortPadded', WHERE WHAT IT READS IS OF BULK AT MOST 1048576: true; the input reads as it did. -/
def fnSortPaddedUptoRow : OpenClaim := { program := "ytopnhnnfobbocaadoor", sum := "d18da4a3e4aa1bd3b9f9809e6958ddb19c1191cfef7e111927cee4eb6eb2aac1", func := "loop.example/obliviousqueries/laws.FnSortPadded", spec := "fnSortPadded", unfollowed := true, recurses := true, named := ["loop.example/obliviousqueries/impl.reserved"], apart := false, laid := [("loop.example/obliviousqueries/impl.reserved", laid_loop_example_obliviousqueries_impl_reserved)], narrowed := true }
def FnSortPaddedUptoSaid : Prop := fnSortPaddedUptoRow.holds Tryd.pinned (OpenSpec.upto fnSortPaddedSpec)

end Rows
end Go.Proofs.YtopnhnnfobbocaaDoor
