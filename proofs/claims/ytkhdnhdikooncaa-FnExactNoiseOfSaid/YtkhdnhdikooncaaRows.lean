/-
  No cell of these rows narrows 'for every input' (looked for: loops, veiled, ifaces, maps, wideKeys, modest, calm, conditions, laid).
  DERIVED. THE GIVEN ROWS OF THIS SEAT. 5 by the template 'for every input the law returns true; each argument reads behind the call as it read before'; 0 by the template 'total and deterministic' (their statements: YtkhdnhdikooncaaTotals.lean).
  GIVEN WITH THE SEED: the statements are not yours to turn. If you find one false, say at which input.
  Laid BY PROGRAM, IN A SANDBOX (cutbox-rows.mjs): the forced cells as the released guide's own fill.sh prints them over the translation a68aa3192429dd19… (all of the seat's roots in one cut). By AI agents, Wed Nov 11 2026. No macro, syntax, notation, axiom, sorry.
-/
import Derived.Test.YtkhdnhdikooncaaChecked
import GoSem.Claim
import GoSem.ClaimJoined
import GoSem.ClaimMapViews
import Derived.JoinedTies
import Derived.KernelRfl
namespace Go.Proofs.Ytkhdnhdikooncaa
/- THE CELL 'sum', in the pinned program and in every row, IS THE sha256 OF THE DUMP (.gsa) THAT YtkhdnhdikooncaaProg.lean LOADS. Nothing in Lean hashes anything: it is a label: what it is worth is what the hold of that sum in a sandbox is worth. -/
noncomputable def Try.pinned : Pinned := { name := "ytkhdnhdikooncaa", sum := "a68aa3192429dd19a4781f62bdbfeb958a098fae723b1fafeaeb312688716e43", checked := Try.checked }
namespace Rows
def none {H : Type} : Left H := { results := [], args := [] }

/-- 'laws.FnExactJoinTags': WHATEVER THE INPUT: true; the input reads as it did. -/
def fnExactJoinTagsSpec : ChangeSpec := { name := "fnExactJoinTags", fn := fun _ => fun
  | [d1, d2] => { results := [.lit (.bool true)], args := [d1, d2] }
  | _ => none }
def fnExactJoinTagsRow : OpenClaim := { program := "ytkhdnhdikooncaa", sum := "a68aa3192429dd19a4781f62bdbfeb958a098fae723b1fafeaeb312688716e43", func := "loop.example/obliviousqueries/laws.FnExactJoinTags", spec := "fnExactJoinTags", apart := false }
def FnExactJoinTagsSaid : Prop := fnExactJoinTagsRow.holds Try.pinned (OpenSpec.ofChange fnExactJoinTagsSpec)

/-- ITS FALSE NEIGHBOUR: 'it returns false'. Refute it at one input. -/
def fnExactJoinTagsWrong : ChangeSpec := { name := "fnExactJoinTags", fn := fun _ => fun
  | [d1, d2] => { results := [.lit (.bool false)], args := [d1, d2] }
  | _ => none }
def FnExactJoinTagsWrongFalsely : Prop := fnExactJoinTagsRow.holds Try.pinned (OpenSpec.ofChange fnExactJoinTagsWrong)

/-- 'laws.FnExactNoiseOf': WHATEVER THE INPUT: true; the input reads as it did. -/
def fnExactNoiseOfSpec : ChangeSpec := { name := "fnExactNoiseOf", fn := fun _ => fun
  | [d1, d2, d3] => { results := [.lit (.bool true)], args := [d1, d2, d3] }
  | _ => none }
def fnExactNoiseOfRow : OpenClaim := { program := "ytkhdnhdikooncaa", sum := "a68aa3192429dd19a4781f62bdbfeb958a098fae723b1fafeaeb312688716e43", func := "loop.example/obliviousqueries/laws.FnExactNoiseOf", spec := "fnExactNoiseOf", apart := false }
def FnExactNoiseOfSaid : Prop := fnExactNoiseOfRow.holds Try.pinned (OpenSpec.ofChange fnExactNoiseOfSpec)

/-- ITS FALSE NEIGHBOUR: 'it returns false'. Refute it at one input. -/
def fnExactNoiseOfWrong : ChangeSpec := { name := "fnExactNoiseOf", fn := fun _ => fun
  | [d1, d2, d3] => { results := [.lit (.bool false)], args := [d1, d2, d3] }
  | _ => none }
def FnExactNoiseOfWrongFalsely : Prop := fnExactNoiseOfRow.holds Try.pinned (OpenSpec.ofChange fnExactNoiseOfWrong)

/-- 'laws.FnExactLedgerValid': WHATEVER THE INPUT: true; the input reads as it did. -/
def fnExactLedgerValidSpec : ChangeSpec := { name := "fnExactLedgerValid", fn := fun _ => fun
  | [d] => { results := [.lit (.bool true)], args := [d] }
  | _ => none }
def fnExactLedgerValidRow : OpenClaim := { program := "ytkhdnhdikooncaa", sum := "a68aa3192429dd19a4781f62bdbfeb958a098fae723b1fafeaeb312688716e43", func := "loop.example/obliviousqueries/laws.FnExactLedgerValid", spec := "fnExactLedgerValid", apart := false }
def FnExactLedgerValidSaid : Prop := fnExactLedgerValidRow.holds Try.pinned (OpenSpec.ofChange fnExactLedgerValidSpec)

/-- ITS FALSE NEIGHBOUR: 'it returns false'. Refute it at one input. -/
def fnExactLedgerValidWrong : ChangeSpec := { name := "fnExactLedgerValid", fn := fun _ => fun
  | [d] => { results := [.lit (.bool false)], args := [d] }
  | _ => none }
def FnExactLedgerValidWrongFalsely : Prop := fnExactLedgerValidRow.holds Try.pinned (OpenSpec.ofChange fnExactLedgerValidWrong)

/-- 'laws.FnExactProofRight': WHATEVER THE INPUT: true; the input reads as it did. -/
def fnExactProofRightSpec : ChangeSpec := { name := "fnExactProofRight", fn := fun _ => fun
  | [d1, d2, d3, d4] => { results := [.lit (.bool true)], args := [d1, d2, d3, d4] }
  | _ => none }
def fnExactProofRightRow : OpenClaim := { program := "ytkhdnhdikooncaa", sum := "a68aa3192429dd19a4781f62bdbfeb958a098fae723b1fafeaeb312688716e43", func := "loop.example/obliviousqueries/laws.FnExactProofRight", spec := "fnExactProofRight", unfollowed := true, recurses := true, apart := false }
def FnExactProofRightSaid : Prop := fnExactProofRightRow.holds Try.pinned (OpenSpec.ofChange fnExactProofRightSpec)

/-- ITS FALSE NEIGHBOUR: 'it returns false'. Refute it at one input. -/
def fnExactProofRightWrong : ChangeSpec := { name := "fnExactProofRight", fn := fun _ => fun
  | [d1, d2, d3, d4] => { results := [.lit (.bool false)], args := [d1, d2, d3, d4] }
  | _ => none }
def FnExactProofRightWrongFalsely : Prop := fnExactProofRightRow.holds Try.pinned (OpenSpec.ofChange fnExactProofRightWrong)

/-- 'laws.FnExactLeftOf': WHATEVER THE INPUT: true; the input reads as it did. -/
def fnExactLeftOfSpec : ChangeSpec := { name := "fnExactLeftOf", fn := fun _ => fun
  | [d] => { results := [.lit (.bool true)], args := [d] }
  | _ => none }
def fnExactLeftOfRow : OpenClaim := { program := "ytkhdnhdikooncaa", sum := "a68aa3192429dd19a4781f62bdbfeb958a098fae723b1fafeaeb312688716e43", func := "loop.example/obliviousqueries/laws.FnExactLeftOf", spec := "fnExactLeftOf", apart := false }
def FnExactLeftOfSaid : Prop := fnExactLeftOfRow.holds Try.pinned (OpenSpec.ofChange fnExactLeftOfSpec)

/-- ITS FALSE NEIGHBOUR: 'it returns false'. Refute it at one input. -/
def fnExactLeftOfWrong : ChangeSpec := { name := "fnExactLeftOf", fn := fun _ => fun
  | [d] => { results := [.lit (.bool false)], args := [d] }
  | _ => none }
def FnExactLeftOfWrongFalsely : Prop := fnExactLeftOfRow.holds Try.pinned (OpenSpec.ofChange fnExactLeftOfWrong)

/- THE SECOND FORM. 'bulk': how many values and letters a reading holds, each counted each time it is reached (what is shared counts as often as it is met; a slice's spare places count too). A statement '..UptoSaid' is the law's where the arguments, and the package variables that the reading takes, are together of bulk at most 1048576: NARROWER than '..Said'. Prove '..Said' where nothing that the law and all that it calls make is longer than what came in: it says more and counts as full. Else prove '..UptoSaid'. A law counts once. -/
mutual
def uptoBulk {H : Type} : DataW H → Nat
  | .lit (.string bytes) => bytes.length + 1
  | .lit _ => 1
  | .nil => 1
  | .ptr d => uptoBulk d + 1
  | .slice elems spare => uptoBulkAll elems + uptoBulkAll spare + 1
  | .agg parts => uptoBulkAll parts + 1
  | .iface _ d => uptoBulk d + 1
  | .map entries => uptoBulkEntries entries + 1
  | .held _ => 1
def uptoBulkAll {H : Type} : List (DataW H) → Nat
  | [] => 0
  | d :: r => uptoBulk d + uptoBulkAll r
def uptoBulkEntries {H : Type} : List (Lit × DataW H) → Nat
  | [] => 0
  | x :: r => uptoBulkEntry x + uptoBulkEntries r
def uptoBulkEntry {H : Type} : Lit × DataW H → Nat
  | (.string bytes, d) => bytes.length + uptoBulk d + 1
  | (_, d) => uptoBulk d + 1
 end
def uptoSmall : (H : Type) → List (DataW H) → Bool := fun _ ds => decide (uptoBulkAll ds ≤ 1048576)
def OpenSpec.upto (s : _root_.Go.ChangeSpec) : _root_.Go.OpenSpec := { _root_.Go.OpenSpec.ofChange s with cond := some uptoSmall }

/-- 'laws.FnExactJoinTags', WHERE WHAT IT READS IS OF BULK AT MOST 1048576: true; the input reads as it did. -/
def fnExactJoinTagsUptoRow : OpenClaim := { program := "ytkhdnhdikooncaa", sum := "a68aa3192429dd19a4781f62bdbfeb958a098fae723b1fafeaeb312688716e43", func := "loop.example/obliviousqueries/laws.FnExactJoinTags", spec := "fnExactJoinTags", apart := false, narrowed := true }
def FnExactJoinTagsUptoSaid : Prop := fnExactJoinTagsUptoRow.holds Try.pinned (OpenSpec.upto fnExactJoinTagsSpec)

/-- 'laws.FnExactNoiseOf', WHERE WHAT IT READS IS OF BULK AT MOST 1048576: true; the input reads as it did. -/
def fnExactNoiseOfUptoRow : OpenClaim := { program := "ytkhdnhdikooncaa", sum := "a68aa3192429dd19a4781f62bdbfeb958a098fae723b1fafeaeb312688716e43", func := "loop.example/obliviousqueries/laws.FnExactNoiseOf", spec := "fnExactNoiseOf", apart := false, narrowed := true }
def FnExactNoiseOfUptoSaid : Prop := fnExactNoiseOfUptoRow.holds Try.pinned (OpenSpec.upto fnExactNoiseOfSpec)

/-- 'laws.FnExactLedgerValid', WHERE WHAT IT READS IS OF BULK AT MOST 1048576: true; the input reads as it did. -/
def fnExactLedgerValidUptoRow : OpenClaim := { program := "ytkhdnhdikooncaa", sum := "a68aa3192429dd19a4781f62bdbfeb958a098fae723b1fafeaeb312688716e43", func := "loop.example/obliviousqueries/laws.FnExactLedgerValid", spec := "fnExactLedgerValid", apart := false, narrowed := true }
def FnExactLedgerValidUptoSaid : Prop := fnExactLedgerValidUptoRow.holds Try.pinned (OpenSpec.upto fnExactLedgerValidSpec)

/-- 'laws.FnExactProofRight', WHERE WHAT IT READS IS OF BULK AT MOST 1048576: true; the input reads as it did. -/
def fnExactProofRightUptoRow : OpenClaim := { program := "ytkhdnhdikooncaa", sum := "a68aa3192429dd19a4781f62bdbfeb958a098fae723b1fafeaeb312688716e43", func := "loop.example/obliviousqueries/laws.FnExactProofRight", spec := "fnExactProofRight", unfollowed := true, recurses := true, apart := false, narrowed := true }
def FnExactProofRightUptoSaid : Prop := fnExactProofRightUptoRow.holds Try.pinned (OpenSpec.upto fnExactProofRightSpec)

/-- 'laws.FnExactLeftOf', WHERE WHAT IT READS IS OF BULK AT MOST 1048576: true; the input reads as it did. -/
def fnExactLeftOfUptoRow : OpenClaim := { program := "ytkhdnhdikooncaa", sum := "a68aa3192429dd19a4781f62bdbfeb958a098fae723b1fafeaeb312688716e43", func := "loop.example/obliviousqueries/laws.FnExactLeftOf", spec := "fnExactLeftOf", apart := false, narrowed := true }
def FnExactLeftOfUptoSaid : Prop := fnExactLeftOfUptoRow.holds Try.pinned (OpenSpec.upto fnExactLeftOfSpec)

end Rows
end Go.Proofs.Ytkhdnhdikooncaa
