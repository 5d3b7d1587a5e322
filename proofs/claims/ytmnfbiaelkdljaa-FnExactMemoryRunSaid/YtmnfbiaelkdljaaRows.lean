/-
  No cell of these rows narrows 'for every input' (looked for: loops, veiled, ifaces, maps, wideKeys, modest, calm, conditions, laid).
  DERIVED. THE GIVEN ROWS OF THIS SEAT. 8 by the template 'for every input the law returns true; each argument reads behind the call as it read before'; 0 by the template 'total and deterministic' (their statements: YtmnfbiaelkdljaaTotals.lean).
  GIVEN WITH THE SEED: the statements are not yours to turn. If you find one false, say at which input.
  Laid BY PROGRAM, IN A SANDBOX (cutbox-rows.mjs): the forced cells as the released guide's own fill.sh prints them over the translation eb1060440db938e0… (all of the seat's roots in one cut). By AI agents, Wed Nov 11 2026. No macro, syntax, notation, axiom, sorry.
-/
import Derived.Test.YtmnfbiaelkdljaaChecked
import GoSem.Claim
import GoSem.ClaimJoined
import GoSem.ClaimMapViews
import Derived.JoinedTies
import Derived.KernelRfl
namespace Go.Proofs.Ytmnfbiaelkdljaa
/- THE CELL 'sum', in the pinned program and in every row, IS THE sha256 OF THE DUMP (.gsa) THAT YtmnfbiaelkdljaaProg.lean LOADS. Nothing in Lean hashes anything: it is a label: what it is worth is what the hold of that sum in a sandbox is worth. -/
noncomputable def Try.pinned : Pinned := { name := "ytmnfbiaelkdljaa", sum := "eb1060440db938e02285f7156d7b5adb2cb40ffeff09fc6ac7c88038ceee3735", checked := Try.checked }
namespace Rows
def none {H : Type} : Left H := { results := [], args := [] }

/-- 'laws.FnExactLedgerValid': WHATEVER THE INPUT: true; the input reads as it did. -/
def fnExactLedgerValidSpec : ChangeSpec := { name := "fnExactLedgerValid", fn := fun _ => fun
  | [d] => { results := [.lit (.bool true)], args := [d] }
  | _ => none }
def fnExactLedgerValidRow : OpenClaim := { program := "ytmnfbiaelkdljaa", sum := "eb1060440db938e02285f7156d7b5adb2cb40ffeff09fc6ac7c88038ceee3735", func := "loop.example/obliviousqueries/laws.FnExactLedgerValid", spec := "fnExactLedgerValid", apart := false }
def FnExactLedgerValidSaid : Prop := fnExactLedgerValidRow.holds Try.pinned (OpenSpec.ofChange fnExactLedgerValidSpec)

/-- ITS FALSE NEIGHBOUR: 'it returns false'. Refute it at one input. -/
def fnExactLedgerValidWrong : ChangeSpec := { name := "fnExactLedgerValid", fn := fun _ => fun
  | [d] => { results := [.lit (.bool false)], args := [d] }
  | _ => none }
def FnExactLedgerValidWrongFalsely : Prop := fnExactLedgerValidRow.holds Try.pinned (OpenSpec.ofChange fnExactLedgerValidWrong)

/-- 'laws.FnExactProofRight': WHATEVER THE INPUT: true; the input reads as it did. -/
def fnExactProofRightSpec : ChangeSpec := { name := "fnExactProofRight", fn := fun _ => fun
  | [d1, d2, d3, d4] => { results := [.lit (.bool true)], args := [d1, d2, d3, d4] }
  | _ => none }
def fnExactProofRightRow : OpenClaim := { program := "ytmnfbiaelkdljaa", sum := "eb1060440db938e02285f7156d7b5adb2cb40ffeff09fc6ac7c88038ceee3735", func := "loop.example/obliviousqueries/laws.FnExactProofRight", spec := "fnExactProofRight", unfollowed := true, recurses := true, apart := false }
def FnExactProofRightSaid : Prop := fnExactProofRightRow.holds Try.pinned (OpenSpec.ofChange fnExactProofRightSpec)

/-- ITS FALSE NEIGHBOUR: 'it returns false'. Refute it at one input. -/
def fnExactProofRightWrong : ChangeSpec := { name := "fnExactProofRight", fn := fun _ => fun
  | [d1, d2, d3, d4] => { results := [.lit (.bool false)], args := [d1, d2, d3, d4] }
  | _ => none }
def FnExactProofRightWrongFalsely : Prop := fnExactProofRightRow.holds Try.pinned (OpenSpec.ofChange fnExactProofRightWrong)

/-- 'laws.FnExactLeftOf': WHATEVER THE INPUT: true; the input reads as it did. -/
def fnExactLeftOfSpec : ChangeSpec := { name := "fnExactLeftOf", fn := fun _ => fun
  | [d] => { results := [.lit (.bool true)], args := [d] }
  | _ => none }
def fnExactLeftOfRow : OpenClaim := { program := "ytmnfbiaelkdljaa", sum := "eb1060440db938e02285f7156d7b5adb2cb40ffeff09fc6ac7c88038ceee3735", func := "loop.example/obliviousqueries/laws.FnExactLeftOf", spec := "fnExactLeftOf", apart := false }
def FnExactLeftOfSaid : Prop := fnExactLeftOfRow.holds Try.pinned (OpenSpec.ofChange fnExactLeftOfSpec)

/-- ITS FALSE NEIGHBOUR: 'it returns false'. Refute it at one input. -/
def fnExactLeftOfWrong : ChangeSpec := { name := "fnExactLeftOf", fn := fun _ => fun
  | [d] => { results := [.lit (.bool false)], args := [d] }
  | _ => none }
def FnExactLeftOfWrongFalsely : Prop := fnExactLeftOfRow.holds Try.pinned (OpenSpec.ofChange fnExactLeftOfWrong)

/-- 'laws.FnExactRootOf': WHATEVER THE INPUT: true; the input reads as it did. -/
def fnExactRootOfSpec : ChangeSpec := { name := "fnExactRootOf", fn := fun _ => fun
  | [d] => { results := [.lit (.bool true)], args := [d] }
  | _ => none }
def fnExactRootOfRow : OpenClaim := { program := "ytmnfbiaelkdljaa", sum := "eb1060440db938e02285f7156d7b5adb2cb40ffeff09fc6ac7c88038ceee3735", func := "loop.example/obliviousqueries/laws.FnExactRootOf", spec := "fnExactRootOf", unfollowed := true, recurses := true, apart := false }
def FnExactRootOfSaid : Prop := fnExactRootOfRow.holds Try.pinned (OpenSpec.ofChange fnExactRootOfSpec)

/-- ITS FALSE NEIGHBOUR: 'it returns false'. Refute it at one input. -/
def fnExactRootOfWrong : ChangeSpec := { name := "fnExactRootOf", fn := fun _ => fun
  | [d] => { results := [.lit (.bool false)], args := [d] }
  | _ => none }
def FnExactRootOfWrongFalsely : Prop := fnExactRootOfRow.holds Try.pinned (OpenSpec.ofChange fnExactRootOfWrong)

/-- 'laws.FnExactProofOf': WHATEVER THE INPUT: true; the input reads as it did. -/
def fnExactProofOfSpec : ChangeSpec := { name := "fnExactProofOf", fn := fun _ => fun
  | [d1, d2] => { results := [.lit (.bool true)], args := [d1, d2] }
  | _ => none }
def fnExactProofOfRow : OpenClaim := { program := "ytmnfbiaelkdljaa", sum := "eb1060440db938e02285f7156d7b5adb2cb40ffeff09fc6ac7c88038ceee3735", func := "loop.example/obliviousqueries/laws.FnExactProofOf", spec := "fnExactProofOf", unfollowed := true, recurses := true, apart := false }
def FnExactProofOfSaid : Prop := fnExactProofOfRow.holds Try.pinned (OpenSpec.ofChange fnExactProofOfSpec)

/-- ITS FALSE NEIGHBOUR: 'it returns false'. Refute it at one input. -/
def fnExactProofOfWrong : ChangeSpec := { name := "fnExactProofOf", fn := fun _ => fun
  | [d1, d2] => { results := [.lit (.bool false)], args := [d1, d2] }
  | _ => none }
def FnExactProofOfWrongFalsely : Prop := fnExactProofOfRow.holds Try.pinned (OpenSpec.ofChange fnExactProofOfWrong)

/-- 'laws.FnExactSpendCost': WHATEVER THE INPUT: true; the input reads as it did. -/
def fnExactSpendCostSpec : ChangeSpec := { name := "fnExactSpendCost", fn := fun _ => fun
  | [d1, d2] => { results := [.lit (.bool true)], args := [d1, d2] }
  | _ => none }
def fnExactSpendCostRow : OpenClaim := { program := "ytmnfbiaelkdljaa", sum := "eb1060440db938e02285f7156d7b5adb2cb40ffeff09fc6ac7c88038ceee3735", func := "loop.example/obliviousqueries/laws.FnExactSpendCost", spec := "fnExactSpendCost", apart := false }
def FnExactSpendCostSaid : Prop := fnExactSpendCostRow.holds Try.pinned (OpenSpec.ofChange fnExactSpendCostSpec)

/-- ITS FALSE NEIGHBOUR: 'it returns false'. Refute it at one input. -/
def fnExactSpendCostWrong : ChangeSpec := { name := "fnExactSpendCost", fn := fun _ => fun
  | [d1, d2] => { results := [.lit (.bool false)], args := [d1, d2] }
  | _ => none }
def FnExactSpendCostWrongFalsely : Prop := fnExactSpendCostRow.holds Try.pinned (OpenSpec.ofChange fnExactSpendCostWrong)

/-- 'laws.FnExactMemoryUse': WHATEVER THE INPUT: true; the input reads as it did. -/
def fnExactMemoryUseSpec : ChangeSpec := { name := "fnExactMemoryUse", fn := fun _ => fun
  | [d1, d2, d3, d4, d5] => { results := [.lit (.bool true)], args := [d1, d2, d3, d4, d5] }
  | _ => none }
def fnExactMemoryUseRow : OpenClaim := { program := "ytmnfbiaelkdljaa", sum := "eb1060440db938e02285f7156d7b5adb2cb40ffeff09fc6ac7c88038ceee3735", func := "loop.example/obliviousqueries/laws.FnExactMemoryUse", spec := "fnExactMemoryUse", unfollowed := true, recurses := true, apart := false }
def FnExactMemoryUseSaid : Prop := fnExactMemoryUseRow.holds Try.pinned (OpenSpec.ofChange fnExactMemoryUseSpec)

/-- ITS FALSE NEIGHBOUR: 'it returns false'. Refute it at one input. -/
def fnExactMemoryUseWrong : ChangeSpec := { name := "fnExactMemoryUse", fn := fun _ => fun
  | [d1, d2, d3, d4, d5] => { results := [.lit (.bool false)], args := [d1, d2, d3, d4, d5] }
  | _ => none }
def FnExactMemoryUseWrongFalsely : Prop := fnExactMemoryUseRow.holds Try.pinned (OpenSpec.ofChange fnExactMemoryUseWrong)

/-- 'laws.FnExactMemoryRun': WHATEVER THE INPUT: true; the input reads as it did. -/
def fnExactMemoryRunSpec : ChangeSpec := { name := "fnExactMemoryRun", fn := fun _ => fun
  | [d1, d2] => { results := [.lit (.bool true)], args := [d1, d2] }
  | _ => none }
def fnExactMemoryRunRow : OpenClaim := { program := "ytmnfbiaelkdljaa", sum := "eb1060440db938e02285f7156d7b5adb2cb40ffeff09fc6ac7c88038ceee3735", func := "loop.example/obliviousqueries/laws.FnExactMemoryRun", spec := "fnExactMemoryRun", unfollowed := true, recurses := true, apart := false }
def FnExactMemoryRunSaid : Prop := fnExactMemoryRunRow.holds Try.pinned (OpenSpec.ofChange fnExactMemoryRunSpec)

/-- ITS FALSE NEIGHBOUR: 'it returns false'. Refute it at one input. -/
def fnExactMemoryRunWrong : ChangeSpec := { name := "fnExactMemoryRun", fn := fun _ => fun
  | [d1, d2] => { results := [.lit (.bool false)], args := [d1, d2] }
  | _ => none }
def FnExactMemoryRunWrongFalsely : Prop := fnExactMemoryRunRow.holds Try.pinned (OpenSpec.ofChange fnExactMemoryRunWrong)

/- THE SECOND FORM. 'bulk': how many values and letters a reading holds, each counted each time it is reached (what is shared counts as often as it is met; a slice's spare places count too). A statement '..UptoSaid' is the law's where the arguments, and the package variables that the reading takes, are together of bulk at most 1048576: NARROWER than '..Said'. Prove '..Said' where nothing that the law and all that it calls make is longer than what came in: it says more and counts as full. Else prove '..UptoSaid'. A law counts once. -/
mutual
def uptoBulk {H : Type} : DataW H → Nat
  | .lit (.string bytes) => bytes.length + 1
  | .lit _ => 1
  | .nil => 1
  | .ptr d => uptoBulk d + 1
  | .slice elems spare => uptoBulkAll elems + uptoBulkAll spare + 1
  | .agg parts => uptoBulkAll parts + 1
  | .iface _ d => uptoBulk d + 1
  | .map entries => uptoBulkEntries entries + 1
  | .held _ => 1
def uptoBulkAll {H : Type} : List (DataW H) → Nat
  | [] => 0
  | d :: r => uptoBulk d + uptoBulkAll r
def uptoBulkEntries {H : Type} : List (Lit × DataW H) → Nat
  | [] => 0
  | x :: r => uptoBulkEntry x + uptoBulkEntries r
def uptoBulkEntry {H : Type} : Lit × DataW H → Nat
  | (.string bytes, d) => bytes.length + uptoBulk d + 1
  | (_, d) => uptoBulk d + 1
 end
def uptoSmall : (H : Type) → List (DataW H) → Bool := fun _ ds => decide (uptoBulkAll ds ≤ 1048576)
def OpenSpec.upto (s : _root_.Go.ChangeSpec) : _root_.Go.OpenSpec := { _root_.Go.OpenSpec.ofChange s with cond := some uptoSmall }

/-- 'laws.FnExactLedgerValid', WHERE WHAT IT READS IS OF BULK AT MOST 1048576: true; the input reads as it did. -/
def fnExactLedgerValidUptoRow : OpenClaim := { program := "ytmnfbiaelkdljaa", sum := "eb1060440db938e02285f7156d7b5adb2cb40ffeff09fc6ac7c88038ceee3735", func := "loop.example/obliviousqueries/laws.FnExactLedgerValid", spec := "fnExactLedgerValid", apart := false, narrowed := true }
def FnExactLedgerValidUptoSaid : Prop := fnExactLedgerValidUptoRow.holds Try.pinned (OpenSpec.upto fnExactLedgerValidSpec)

/-- 'laws.FnExactProofRight', WHERE WHAT IT READS IS OF BULK AT MOST 1048576: true; the input reads as it did. -/
def fnExactProofRightUptoRow : OpenClaim := { program := "ytmnfbiaelkdljaa", sum := "eb1060440db938e02285f7156d7b5adb2cb40ffeff09fc6ac7c88038ceee3735", func := "loop.example/obliviousqueries/laws.FnExactProofRight", spec := "fnExactProofRight", unfollowed := true, recurses := true, apart := false, narrowed := true }
def FnExactProofRightUptoSaid : Prop := fnExactProofRightUptoRow.holds Try.pinned (OpenSpec.upto fnExactProofRightSpec)

/-- 'laws.FnExactLeftOf', WHERE WHAT IT READS IS OF BULK AT MOST 1048576: true; the input reads as it did. -/
def fnExactLeftOfUptoRow : OpenClaim := { program := "ytmnfbiaelkdljaa", sum := "eb1060440db938e02285f7156d7b5adb2cb40ffeff09fc6ac7c88038ceee3735", func := "loop.example/obliviousqueries/laws.FnExactLeftOf", spec := "fnExactLeftOf", apart := false, narrowed := true }
def FnExactLeftOfUptoSaid : Prop := fnExactLeftOfUptoRow.holds Try.pinned (OpenSpec.upto fnExactLeftOfSpec)

/-- 'laws.FnExactRootOf', WHERE WHAT IT READS IS OF BULK AT MOST 1048576: true; the input reads as it did. -/
def fnExactRootOfUptoRow : OpenClaim := { program := "ytmnfbiaelkdljaa", sum := "eb1060440db938e02285f7156d7b5adb2cb40ffeff09fc6ac7c88038ceee3735", func := "loop.example/obliviousqueries/laws.FnExactRootOf", spec := "fnExactRootOf", unfollowed := true, recurses := true, apart := false, narrowed := true }
def FnExactRootOfUptoSaid : Prop := fnExactRootOfUptoRow.holds Try.pinned (OpenSpec.upto fnExactRootOfSpec)

/-- 'laws.FnExactProofOf', WHERE WHAT IT READS IS OF BULK AT MOST 1048576: true; the input reads as it did. -/
def fnExactProofOfUptoRow : OpenClaim := { program := "ytmnfbiaelkdljaa", sum := "eb1060440db938e02285f7156d7b5adb2cb40ffeff09fc6ac7c88038ceee3735", func := "loop.example/obliviousqueries/laws.FnExactProofOf", spec := "fnExactProofOf", unfollowed := true, recurses := true, apart := false, narrowed := true }
def FnExactProofOfUptoSaid : Prop := fnExactProofOfUptoRow.holds Try.pinned (OpenSpec.upto fnExactProofOfSpec)

/-- 'laws.FnExactSpendCost', WHERE WHAT IT READS IS OF BULK AT MOST 1048576: true; the input reads as it did. -/
def fnExactSpendCostUptoRow : OpenClaim := { program := "ytmnfbiaelkdljaa", sum := "eb1060440db938e02285f7156d7b5adb2cb40ffeff09fc6ac7c88038ceee3735", func := "loop.example/obliviousqueries/laws.FnExactSpendCost", spec := "fnExactSpendCost", apart := false, narrowed := true }
def FnExactSpendCostUptoSaid : Prop := fnExactSpendCostUptoRow.holds Try.pinned (OpenSpec.upto fnExactSpendCostSpec)

/-- 'laws.FnExactMemoryUse', WHERE WHAT IT READS IS OF BULK AT MOST 1048576: true; the input reads as it did. -/
def fnExactMemoryUseUptoRow : OpenClaim := { program := "ytmnfbiaelkdljaa", sum := "eb1060440db938e02285f7156d7b5adb2cb40ffeff09fc6ac7c88038ceee3735", func := "loop.example/obliviousqueries/laws.FnExactMemoryUse", spec := "fnExactMemoryUse", unfollowed := true, recurses := true, apart := false, narrowed := true }
def FnExactMemoryUseUptoSaid : Prop := fnExactMemoryUseUptoRow.holds Try.pinned (OpenSpec.upto fnExactMemoryUseSpec)

/-- 'laws.FnExactMemoryRun', WHERE WHAT IT READS IS OF BULK AT MOST 1048576: true; the input reads as it did. -/
def fnExactMemoryRunUptoRow : OpenClaim := { program := "ytmnfbiaelkdljaa", sum := "eb1060440db938e02285f7156d7b5adb2cb40ffeff09fc6ac7c88038ceee3735", func := "loop.example/obliviousqueries/laws.FnExactMemoryRun", spec := "fnExactMemoryRun", unfollowed := true, recurses := true, apart := false, narrowed := true }
def FnExactMemoryRunUptoSaid : Prop := fnExactMemoryRunUptoRow.holds Try.pinned (OpenSpec.upto fnExactMemoryRunSpec)

end Rows
end Go.Proofs.Ytmnfbiaelkdljaa
