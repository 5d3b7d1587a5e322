/- The root of a tree of tags; with no condition. -/
import Derived.Test.YtbaafpfappfkjaaDoorLevels
import Derived.KernelRfl
namespace Go.Gw
open Go Go.Proofs
set_option linter.unusedSimpArgs false
set_option linter.unusedVariables false
set_option maxRecDepth 100000
def ir33 : Ir :=
  (.seq
  (.reg [] [o 2 (.mov (ci 0))])
  (.seq
  (.reg [4, 5] [o 4 (.mov (tt 0)),
    o 5 (.call 56 [(tt 4)]),
    o 3 (.mov (tt 5))])
  (.seq
  (.seq
  (.reg [6] [o 6 (.mov (tt 3)),
    o 7 (.isNil false (tt 6))])
  (.cond (tt 7)
   (.seq
   (.reg [] [o 2 (.mov (ci (-1)))])
   .ret)
   .skip))
  (.seq
  (.reg [8, 9, 10, 11, 12, 13, 14, 15] [o 8 (.mov (tt 3)),
    o 9 (.mov (tt 3)),
    o 10 (.len (tt 9)),
    o 11 (.bin .sub (tt 10) (ci 1)),
    o 12 (.idx 1 (tt 8) (tt 11)),
    o 13 (.load false 1 (tt 12)),
    o 14 (.idx 1 (tt 13) (ci 0)),
    o 15 (.load false 1 (tt 14)),
    o 2 (.mov (tt 15))])
  .ret))))
def keep33 : List Nat := [0, 2, 3, 7]
def res33 : List RI := [.tmp 2]
theorem chk33 : chk Tryd.prog 33 1 keep33 = some (ir33, res33) := by kernel_rfl

def in_imRO (nn : Bool) (n : Nat) (f : Nat → Int) := (G0, res33, ([] : List (Nat × Ob)), [Item.ir ir33], start [IL nn n f] [])
theorem ev_imROt : ∀ (nn : Bool) (n : Nat) (f : Nat → Int),
  ev G0 res33 [] (3000 : Nat)
      (Or.call [] (AV.own (0 : Nat))
        [((0 : Nat),
            Ob.row Mode.z true (1 : Nat) (n.log2 + (1 : Nat)) (LV (0 : Nat) n fun (i : Nat) => intOf (PI (f i))) [])]
        Or.nil.lit)
      [Item.ir ir33] (start [IL nn n f] []) =
    VC.call (56 : Nat) [AV.p false (PV.sl nn (1 : Nat) n fun (i x : Nat) => PI (f i))] [] (AV.own (0 : Nat))
      [((0 : Nat),
          Ob.row Mode.z true (1 : Nat) (n.log2 + (1 : Nat)) (LV (0 : Nat) n fun (i : Nat) => intOf (PI (f i))) [])]
      (VC.need
        ((0 : Int) ≤ IntKind.i64.wrap ((↑(n.log2 + (1 : Nat)) : Int) - (1 : Int)) ∧
          (IntKind.i64.wrap ((↑(n.log2 + (1 : Nat)) : Int) - (1 : Int))).toNat < n.log2 + (1 : Nat))
        (VC.need ((IntKind.i64.wrap ((↑(n.log2 + (1 : Nat)) : Int) - (1 : Int))).toNat < n.log2 + (1 : Nat))
          (VC.need
            ((0 : Int) ≤ (0 : Int) ∧
              Int.toNat (0 : Int) <
                n / (2 : Nat) ^ (IntKind.i64.wrap ((↑(n.log2 + (1 : Nat)) : Int) - (1 : Int))).toNat)
            (VC.doneP
              (AV.p true
                (PV.v
                  (Value.int IntKind.i64
                    (upN (fun (i : Nat) => intOf (PI (f i)))
                      (IntKind.i64.wrap ((↑(n.log2 + (1 : Nat)) : Int) - (1 : Int))).toNat (Int.toNat (0 : Int)))))))))) := by
  intros; kernel_rfl
theorem ev_imROf : ∀ (nn : Bool) (n : Nat) (f : Nat → Int),
  ev G0 res33 [] (3000 : Nat) (Or.call [] (AV.p true (PV.v (Value.slice none (0 : Nat) (0 : Nat)))) [] Or.nil.lit)
      [Item.ir ir33] (start [IL nn n f] []) =
    VC.call (56 : Nat) [AV.p false (PV.sl nn (1 : Nat) n fun (i x : Nat) => PI (f i))] []
      (AV.p true (PV.v (Value.slice none (0 : Nat) (0 : Nat)))) []
      (VC.doneP (AV.p true (PV.v (Value.int IntKind.i64 (-1 : Int))))) := by
  intros; kernel_rfl
theorem tree_log {n : Nat} (h : n = 1 ∨ n = 2 ∨ n = 4 ∨ n = 8 ∨ n = 16) : n / 2 ^ Nat.log2 n = 1 ∧ Nat.log2 n ≤ 4 := by
  rcases h with rfl | rfl | rfl | rfl | rfl <;> decide
theorem c_imRO0 (nn : Bool) (n : Nat) (f : Nat → Int) (hn : n ≤ 1048576) : PRet Tryd.prog G0 33 [IL nn n f] (AI (rootOf n f)) := by
  cases ht : treeOk n f with
  | true =>
    have hN := tree_log (treeOk_n ht)
    refine PRet.by chk33 (ev_imROt nn n f) ?_
    simp only [VC.holds_split, VC.holds_need, VC.holds_doneP, VC.holds_done, VC.holds_either, VC.holds_call, VC.holds_callE, VC.holds_lend, VC.holds_stop, VC.holds_fail, decide_eq_true_eq, decide_eq_false_iff_not, intOf]
    have e1 : IntKind.i64.wrap (((Nat.log2 n + 1 : Nat) : Int) - 1) = (Nat.log2 n : Int) := (wrap_in (by omega) (by omega)).trans (by omega)
    simp only [e1, Int.toNat_natCast]
    refine ⟨c_levels_ok _ _ _ (int_cells _ _) ht, by omega, by omega, ⟨by omega, by rw [hN.1]; decide⟩, ?_⟩
    simp [rootOf, ht]
  | false =>
    refine PRet.by chk33 (ev_imROf nn n f) ?_
    simp only [VC.holds_split, VC.holds_need, VC.holds_doneP, VC.holds_done, VC.holds_either, VC.holds_call, VC.holds_callE, VC.holds_lend, VC.holds_stop, VC.holds_fail, decide_eq_true_eq, decide_eq_false_iff_not, intOf]
    refine ⟨c_levels_no _ _ _ (int_cells _ _) hn ht, ?_⟩
    simp [rootOf, ht]
theorem c_imRO (nn : Bool) (n : Nat) (g : Nat → Nat → PV) (hg : IntCells 1 n g) (hn : n ≤ 1048576) : PRet Tryd.prog G0 33 [SL nn 1 n g] (AI (rootOf n fun i => intOf (g i 0))) := (c_imRO0 nn n _ hn).args (IL_le hg)

end Go.Gw
