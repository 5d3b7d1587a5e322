/- The root of a tree of tags; with no condition. -/
import Derived.Test.YtmnfbiaelkdljaaLevels
import Derived.KernelRfl
namespace Go.Gw
open Go Go.Proofs
set_option linter.unusedSimpArgs false
set_option linter.unusedVariables false
set_option maxRecDepth 100000
def ir23 : Ir :=
  (.seq
  (.reg [] [o 2 (.mov (ci 0))])
  (.seq
  (.reg [4, 5] [o 4 (.mov (tt 0)),
    o 5 (.call 55 [(tt 4)]),
    o 3 (.mov (tt 5))])
  (.seq
  (.seq
  (.reg [6] [o 6 (.mov (tt 3)),
    o 7 (.isNil false (tt 6))])
  (.cond (tt 7)
   (.seq
   (.reg [] [o 2 (.mov (ci (-1)))])
   .ret)
   .skip))
  (.seq
  (.reg [8, 9, 10, 11, 12, 13, 14, 15] [o 8 (.mov (tt 3)),
    o 9 (.mov (tt 3)),
    o 10 (.len (tt 9)),
    o 11 (.bin .sub (tt 10) (ci 1)),
    o 12 (.idx 1 (tt 8) (tt 11)),
    o 13 (.load false 1 (tt 12)),
    o 14 (.idx 1 (tt 13) (ci 0)),
    o 15 (.load false 1 (tt 14)),
    o 2 (.mov (tt 15))])
  .ret))))
def keep23 : List Nat := [0, 2, 3, 7]
def res23 : List RI := [.tmp 2]
theorem chk23 : chk Try.prog 23 1 keep23 = some (ir23, res23) := by kernel_rfl
def ir6 : Ir :=
  (.seq
  (.reg [] [o 2 (.mov (cb false))])
  (.seq
  (.seq
  (.reg [6, 7] [o 6 (.mov (tt 0)),
    o 7 (.len (tt 6)),
    o 8 (.bin .gtr (tt 7) (ci 1048576))])
  (.cond (tt 8)
   (.seq
   (.reg [] [o 2 (.mov (cb true))])
   .ret)
   .skip))
  (.seq
  (.reg [9, 10, 11] [o 9 (.mov (tt 0)),
    o 10 (.call 17 [(tt 9)]),
    o 11 (.call 22 [(tt 10)]),
    o 3 (.mov (tt 11))])
  (.seq
  (.reg [12, 13] [o 12 (.mov (tt 0)),
    o 13 (.call 17 [(tt 12)]),
    o 4 (.mov (tt 13))])
  (.seq
  (.reg [14, 15] [o 14 (.mov (tt 4)),
    o 15 (.call 23 [(tt 14)]),
    o 5 (.mov (tt 15))])
  (.seq
  (.seq
  (.reg [16, 17] [o 16 (.mov (tt 5)),
    o 17 (.mov (tt 3)),
    o 18 (.bin .neq (tt 16) (tt 17))])
  (.cond (tt 18)
   (.seq
   (.reg [] [o 2 (.mov (cb false))])
   .ret)
   .skip))
  (.seq
  (.seq
  (.reg [19, 20, 21, 22] [o 19 (.mov (tt 4)),
    o 20 (.mov (tt 0)),
    o 21 (.call 17 [(tt 20)]),
    o 22 (.call 19 [(tt 19), (tt 21)]),
    o 23 (.un .not (tt 22))])
  (.cond (tt 23)
   (.seq
   (.reg [] [o 2 (.mov (cb false))])
   .ret)
   .skip))
  (.seq
  (.reg [] [o 2 (.mov (cb true))])
  .ret))))))))
def keep6 : List Nat := [0, 2, 3, 4, 5, 8, 18, 23]
def res6 : List RI := [.tmp 2]
theorem chk6 : chk Try.prog 6 1 keep6 = some (ir6, res6) := by kernel_rfl

def in_imRO (nn : Bool) (n : Nat) (f : Nat → Int) := (G0, res23, ([] : List (Nat × Ob)), [Item.ir ir23], start [IL nn n f] [])
theorem ev_imROt : ∀ (nn : Bool) (n : Nat) (f : Nat → Int),
  ev G0 res23 [] (3000 : Nat)
      (Or.call [] (AV.own (0 : Nat))
        [((0 : Nat),
            Ob.row Mode.z true (1 : Nat) (n.log2 + (1 : Nat)) (LV (0 : Nat) n fun (i : Nat) => intOf (PI (f i))) [])]
        Or.nil.lit)
      [Item.ir ir23] (start [IL nn n f] []) =
    VC.call (55 : Nat) [AV.p false (PV.sl nn (1 : Nat) n fun (i x : Nat) => PI (f i))] [] (AV.own (0 : Nat))
      [((0 : Nat),
          Ob.row Mode.z true (1 : Nat) (n.log2 + (1 : Nat)) (LV (0 : Nat) n fun (i : Nat) => intOf (PI (f i))) [])]
      (VC.need
        ((0 : Int) ≤ IntKind.i64.wrap ((↑(n.log2 + (1 : Nat)) : Int) - (1 : Int)) ∧
          (IntKind.i64.wrap ((↑(n.log2 + (1 : Nat)) : Int) - (1 : Int))).toNat < n.log2 + (1 : Nat))
        (VC.need ((IntKind.i64.wrap ((↑(n.log2 + (1 : Nat)) : Int) - (1 : Int))).toNat < n.log2 + (1 : Nat))
          (VC.need
            ((0 : Int) ≤ (0 : Int) ∧
              Int.toNat (0 : Int) <
                n / (2 : Nat) ^ (IntKind.i64.wrap ((↑(n.log2 + (1 : Nat)) : Int) - (1 : Int))).toNat)
            (VC.doneP
              (AV.p true
                (PV.v
                  (Value.int IntKind.i64
                    (upN (fun (i : Nat) => intOf (PI (f i)))
                      (IntKind.i64.wrap ((↑(n.log2 + (1 : Nat)) : Int) - (1 : Int))).toNat (Int.toNat (0 : Int)))))))))) := by
  intros; kernel_rfl
theorem ev_imROf : ∀ (nn : Bool) (n : Nat) (f : Nat → Int),
  ev G0 res23 [] (3000 : Nat) (Or.call [] (AV.p true (PV.v (Value.slice none (0 : Nat) (0 : Nat)))) [] Or.nil.lit)
      [Item.ir ir23] (start [IL nn n f] []) =
    VC.call (55 : Nat) [AV.p false (PV.sl nn (1 : Nat) n fun (i x : Nat) => PI (f i))] []
      (AV.p true (PV.v (Value.slice none (0 : Nat) (0 : Nat)))) []
      (VC.doneP (AV.p true (PV.v (Value.int IntKind.i64 (-1 : Int))))) := by
  intros; kernel_rfl
theorem tree_log {n : Nat} (h : n = 1 ∨ n = 2 ∨ n = 4 ∨ n = 8 ∨ n = 16) : n / 2 ^ Nat.log2 n = 1 ∧ Nat.log2 n ≤ 4 := by
  rcases h with rfl | rfl | rfl | rfl | rfl <;> decide
theorem c_imRO0 (nn : Bool) (n : Nat) (f : Nat → Int) (hn : n ≤ 1048576) : PRet Try.prog G0 23 [IL nn n f] (AI (rootOf n f)) := by
  cases ht : treeOk n f with
  | true =>
    have hN := tree_log (treeOk_n ht)
    refine PRet.by chk23 (ev_imROt nn n f) ?_
    simp only [VC.holds_split, VC.holds_need, VC.holds_doneP, VC.holds_done, VC.holds_either, VC.holds_call, VC.holds_callE, VC.holds_lend, VC.holds_stop, VC.holds_fail, decide_eq_true_eq, decide_eq_false_iff_not, intOf]
    have e1 : IntKind.i64.wrap (((Nat.log2 n + 1 : Nat) : Int) - 1) = (Nat.log2 n : Int) := (wrap_in (by omega) (by omega)).trans (by omega)
    simp only [e1, Int.toNat_natCast]
    refine ⟨c_levels_ok _ _ _ (int_cells _ _) ht, by omega, by omega, ⟨by omega, by rw [hN.1]; decide⟩, ?_⟩
    simp [rootOf, ht]
  | false =>
    refine PRet.by chk23 (ev_imROf nn n f) ?_
    simp only [VC.holds_split, VC.holds_need, VC.holds_doneP, VC.holds_done, VC.holds_either, VC.holds_call, VC.holds_callE, VC.holds_lend, VC.holds_stop, VC.holds_fail, decide_eq_true_eq, decide_eq_false_iff_not, intOf]
    refine ⟨c_levels_no _ _ _ (int_cells _ _) hn ht, ?_⟩
    simp [rootOf, ht]
theorem c_imRO (nn : Bool) (n : Nat) (g : Nat → Nat → PV) (hg : IntCells 1 n g) (hn : n ≤ 1048576) : PRet Try.prog G0 23 [SL nn 1 n g] (AI (rootOf n fun i => intOf (g i 0))) := (c_imRO0 nn n _ hn).args (IL_le hg)

/-! ### The law -/
def in_lawRO (nn : Bool) (n : Nat) (f : Nat → Int) := (G0, res6, ([] : List (Nat × Ob)), [Item.ir ir6], start [IL nn n f] [])
theorem ev_lawRO : ∀ (nn : Bool) (n : Nat) (f : Nat → Int),
  ev G0 res6 [] (3000 : Nat)
      (Or.nil.split
        (Or.call [] (AV.own (0 : Nat))
          [((0 : Nat), Ob.row Mode.u true (1 : Nat) n (fun (i x : Nat) => PI (intOf (PI (f i)))) [])]
          (Or.call [] (AI (rootOf n fun (i : Nat) => intOf (PI (intOf (PI (f i)))))) []
            (Or.call [] (AV.own (0 : Nat))
              [((0 : Nat), Ob.row Mode.u true (1 : Nat) n (fun (i x : Nat) => PI (intOf (PI (f i)))) [])]
              (Or.call [] (AI (rootOf n fun (i : Nat) => intOf (PI (intOf (PI (f i)))))) []
                (Or.nil.split
                  (Or.call [] (AV.own (0 : Nat))
                    [((0 : Nat), Ob.row Mode.u true (1 : Nat) n (fun (i x : Nat) => PI (intOf (PI (f i)))) [])]
                    (Or.call [] (AB true) [] Or.nil.lit))))))))
      [Item.ir ir6] (start [IL nn n f] []) =
    VC.split (decide ((1048576 : Int) < (↑n : Int))) (VC.doneP (AV.p true (PV.v (Value.bool true))))
      (VC.call (17 : Nat) [AV.p false (PV.sl nn (1 : Nat) n fun (i x : Nat) => PI (f i))] [] (AV.own (0 : Nat))
        [((0 : Nat), Ob.row Mode.u true (1 : Nat) n (fun (i x : Nat) => PI (intOf (PI (f i)))) [])]
        (VC.call (22 : Nat) [AV.p false (PV.sl true (1 : Nat) n fun (i x : Nat) => PI (intOf (PI (f i))))] []
          (AI (rootOf n fun (i : Nat) => intOf (PI (intOf (PI (f i)))))) []
          (VC.call (17 : Nat) [AV.p false (PV.sl nn (1 : Nat) n fun (i x : Nat) => PI (f i))] [] (AV.own (0 : Nat))
            [((0 : Nat), Ob.row Mode.u true (1 : Nat) n (fun (i x : Nat) => PI (intOf (PI (f i)))) [])]
            (VC.call (23 : Nat) [AV.p false (PV.sl true (1 : Nat) n fun (i x : Nat) => PI (intOf (PI (f i))))] []
              (AI (rootOf n fun (i : Nat) => intOf (PI (intOf (PI (f i)))))) []
              (VC.split
                ((rootOf n fun (i : Nat) => intOf (PI (intOf (PI (f i))))) !=
                  rootOf n fun (i : Nat) => intOf (PI (intOf (PI (f i)))))
                (VC.doneP (AV.p true (PV.v (Value.bool false))))
                (VC.call (17 : Nat) [AV.p false (PV.sl nn (1 : Nat) n fun (i x : Nat) => PI (f i))] []
                  (AV.own (0 : Nat))
                  [((0 : Nat), Ob.row Mode.u true (1 : Nat) n (fun (i x : Nat) => PI (intOf (PI (f i)))) [])]
                  (VC.call (19 : Nat)
                    [AV.p false (PV.sl true (1 : Nat) n fun (i x : Nat) => PI (intOf (PI (f i)))),
                      AV.p false (PV.sl true (1 : Nat) n fun (i x : Nat) => PI (intOf (PI (f i))))]
                    [] (AB true) [] (VC.doneP (AV.p true (PV.v (Value.bool true))))))))))) := by
  intros; kernel_rfl
theorem c_lawRO (nn : Bool) (n : Nat) (f : Nat → Int) : PRet Try.prog G0 6 [IL nn n f] (AB true) := by
  refine PRet.by chk6 (ev_lawRO nn n f) ?_
  simp only [VC.holds_split, VC.holds_need, VC.holds_doneP, VC.holds_done, VC.holds_either, VC.holds_call, VC.holds_callE, VC.holds_lend, VC.holds_stop, VC.holds_fail, decide_eq_true_eq, decide_eq_false_iff_not]
  refine ⟨fun h => by simp, fun h => ?_⟩
  have hn' : n ≤ 1048576 := by omega
  have hi := int_cells f n
  have hi' := int_cells (fun i => intOf (PI (f i))) n
  have to := c_toIntS nn n (fun i _ => PI (f i)) hi hn'
  refine ⟨to, c_spRO _ _ _ hi' hn', to, c_imRO _ _ _ hi' hn', fun h2 => by simp at h2, fun h2 => ⟨to, c_eqIntS _ _ _ _ _ hi' (fun i hi => rfl) (by omega), ?_⟩⟩
  simp
theorem leaves_row : leaves Try.prog 12 22 = some [.sl [.int .i64]] := by kernel_rfl
theorem args_row {ts : List TypeId} {xs : List AV} (h : Args Try.prog (22 :: ts) xs) : ∃ nn n g cs, n ≤ maxLen ∧ IntCells 1 n g ∧ Args Try.prog ts cs ∧ xs = SL nn 1 n g :: cs := by
  cases h with
  | cons t ts ls l cs hl hlen hfit h =>
    rw [leaves_row] at hl
    cases hl
    match l, hlen with
    | [c0], _ =>
      obtain ⟨nn, n, g, h1, hn, hg⟩ := fit_sl (hfit 0 _ rfl)
      simp only [List.getD_cons_zero] at h1
      subst h1
      refine ⟨nn, n, g, cs, hn, fit_cells (fun j l hj => ?_) hg, h, ?_⟩
      · match j, hj with
        | 0, hj => cases hj; rfl
      · unfold argOf
        rw [Try.underlying22]
        rfl
theorem law_FnExactRootOf (xs : List AV) (h : Args Try.prog Try.f6.params.toList xs) : PRet Try.prog [] 6 xs (AB true) := by
  have hp : Try.f6.params.toList = [22] := by kernel_rfl
  rw [hp] at h
  obtain ⟨nn, n, g, cs, hn, hg, h2, rfl⟩ := args_row h
  cases h2
  exact (c_lawRO nn n _).args ⟨AV.leP_ints hg, trivial⟩
end Go.Gw
