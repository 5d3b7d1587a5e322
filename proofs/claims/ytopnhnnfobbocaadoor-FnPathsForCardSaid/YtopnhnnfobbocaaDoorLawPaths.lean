/- The law FnPathsFor; with no condition. -/
import Derived.Test.YtopnhnnfobbocaaDoorPathDraw
import Derived.Test.YtopnhnnfobbocaaDoorSame
import Derived.Test.YtopnhnnfobbocaaDoorNames
import Derived.KernelRfl
namespace Go.Gw
open Go Go.Proofs
set_option linter.unusedSimpArgs false
set_option linter.unusedVariables false
set_option maxRecDepth 100000
def ir3_L1 : Ir :=
  (.seq
  (.seq
  (.reg [48, 49, 50] [o 48 (.mov (tt 11)),
    o 49 (.mov (tt 4)),
    o 50 (.len (tt 49)),
    o 51 (.bin .lss (tt 48) (tt 50))])
  (.cond (tt 51)
   .skip
   (.exit 0)))
  (.seq
  (.block 1
   (.seq
   (.reg [54, 55, 56, 57] [o 54 (.mov (tt 4)),
     o 55 (.mov (tt 11)),
     o 56 (.idx 4 (tt 54) (tt 55)),
     o 57 (.load true 4 (tt 56)),
     o 12 (.alloc [(.int .i64 0), (.bool false), (.int .i64 0), (.int .i64 0)]),
     on (.store 4 (tt 12) (tt 57))])
   (.seq
   (.reg [58, 59, 60, 61] [o 58 (.fadr 1 (tt 12)),
     o 59 (.load false 1 (tt 58)),
     o 60 (.un .not (tt 59)),
     o 61 (.fadr 1 (tt 12)),
     on (.store 1 (tt 61) (tt 60))])
   (.seq
   (.reg [62, 63] [o 62 (.mov (tt 11)),
     o 63 (.fadr 2 (tt 12)),
     on (.store 1 (tt 63) (tt 62))])
   (.reg [64, 65, 66, 67] [o 64 (.mov (tt 10)),
     o 65 (.load true 4 (tt 12)),
     o 66 (.mkSl 4 1 [(.int .i64 0), (.bool false), (.int .i64 0), (.int .i64 0)] [(0, (tt 65))]),
     o 67 (.app 4 32 true (tt 64) (tt 66)),
     o 10 (.mov (tt 67))])))))
  (.reg [52, 53] [o 52 (.mov (tt 11)),
    o 53 (.bin .add (tt 52) (ci 1)),
    o 11 (.mov (tt 53))])))
def ir3_T2 : Ir :=
  (.seq
  (.reg [68, 69, 70, 71, 72, 73, 74, 75, 76, 77] [o 68 (.mov (tt 5)),
    o 69 (.mov (tt 8)),
    o 70 (.call 16 [(tt 68), (tt 69)]),
    o 71 (.mov (tt 70)),
    og 72 71 true (.load true 2 (tt 3)),
    og 73 71 true (.mov (tt 10)),
    og 74 71 true (.call 15 [(tt 72), (tt 73)]),
    og 75 71 true (.mov (tt 5)),
    og 76 71 true (.call 16 [(tt 74), (tt 75)]),
    o 77 (.pick (tt 71) (tt 76) (cb false)),
    o 2 (.mov (tt 77))])
  .ret)
def ir3 : Ir :=
  (.seq
  (.reg [] [o 2 (.mov (cb false))])
  (.seq
  (.seq
  (.reg [13, 14] [o 13 (.mov (tt 0)),
    o 14 (.len (tt 13)),
    o 15 (.bin .gtr (tt 14) (ci 1048576))])
  (.cond (tt 15)
   (.seq
   (.reg [] [o 2 (.mov (cb true))])
   .ret)
   .skip))
  (.seq
  (.reg [17, 18, 16, 19, 20] [o 17 (.mov (tt 0)),
    o 18 (.call 14 [(tt 17)]),
    o 16 (.mov (tt 18)),
    o 19 (.ext (tt 16) 0),
    o 20 (.ext (tt 16) 1),
    o 3 (.alloc [(.slice none 0 0), (.slice none 0 0)]),
    on (.store 2 (tt 3) (tt 19)),
    o 4 (.mov (tt 20))])
  (.seq
  (.reg [21, 22, 23] [o 21 (.load true 2 (tt 3)),
    o 22 (.mov (tt 4)),
    o 23 (.call 15 [(tt 21), (tt 22)]),
    o 5 (.mov (tt 23))])
  (.seq
  (.seq
  (.reg [24, 25, 26, 27, 28] [o 24 (.mov (tt 5)),
    o 25 (.load true 2 (tt 3)),
    o 26 (.mov (tt 4)),
    o 27 (.call 17 [(tt 25), (tt 26)]),
    o 28 (.call 16 [(tt 24), (tt 27)]),
    o 29 (.un .not (tt 28))])
  (.cond (tt 29)
   (.seq
   (.reg [] [o 2 (.mov (cb false))])
   .ret)
   .skip))
  (.seq
  (.reg [31, 32, 33, 30, 34, 35, 36, 37, 6, 7] [o 31 (.load true 2 (tt 3)),
    o 32 (.mov (tt 4)),
    o 33 (.call 18 [(tt 31), (tt 32)]),
    o 30 (.mov (tt 33)),
    o 34 (.ext (tt 30) 0),
    o 35 (.ext (tt 30) 1),
    o 36 (.ext (tt 30) 2),
    o 37 (.ext (tt 30) 3),
    o 6 (.alloc [(.slice none 0 0), (.slice none 0 0)]),
    on (.store 2 (tt 6) (tt 34)),
    o 7 (.mov (tt 35)),
    o 8 (.mov (tt 36)),
    o 9 (.mov (tt 37))])
  (.seq
  (.seq
  (.reg [38] [o 38 (.mov (tt 9)),
    o 39 (.un .not (tt 38))])
  (.cond (tt 39)
   (.seq
   (.reg [40, 41, 42, 43, 44, 45, 46] [o 40 (.mov (tt 5)),
     o 41 (.len (tt 40)),
     o 42 (.bin .rem (tt 41) (ci 3)),
     o 43 (.bin .eql (tt 42) (ci 0)),
     o 44 (.mov (tt 43)),
     og 45 44 true (.call 19 []),
     o 46 (.pick (tt 44) (tt 45) (cb false)),
     o 2 (.mov (tt 46))])
   .ret)
   .skip))
  (.seq
  (.reg [47] [o 47 (.mkSl 4 0 [(.int .i64 0), (.bool false), (.int .i64 0), (.int .i64 0)] []),
    o 10 (.mov (tt 47))])
  (.seq
  (.seq
  (.reg [] [o 11 (.mov (ci 0))])
  (.block 0
   (.loop ir3_L1)))
  ir3_T2)))))))))
def keep3 : List Nat := [0, 2, 3, 4, 5, 8, 9, 10, 11, 12, 15, 29, 39, 51]
def res3 : List RI := [.tmp 2]
theorem chk3 : chk Tryd.prog 3 1 keep3 = some (ir3, res3) := by kernel_rfl

def in_lPF (nn : Bool) (n : Nat) (f : Nat → Int) := (G0, res3, ([] : List (Nat × Ob)), [Item.ir ir3], start [.p false (.sl nn 1 n (PB f))] [])
theorem ev_lPF : ∀ (nn : Bool) (n : Nat) (f : Nat → Int), ev G0 res3 [] (3000 : Nat) (Or.nil.split (Or.callE [] DP DpOk dpR (fun (x : DP) => []) fun (x : DP) => Or.call [] (AV.own (0 : Nat)) (pH x.T x.S x.U) (Or.call [] (AV.own (0 : Nat)) (pH x.T x.S x.U) (Or.call [] (AB (sameI ((3 : Nat) * pN x.T x.S x.U) (pF x.T x.S x.U) ((3 : Nat) * pN x.T x.S x.U) (pF x.T x.S x.U))) [] (Or.nil.split (Or.call [] (rR x.T x.S x.U) (rH x.T x.S x.U) (((Or.call [] (AB true) [] Or.nil.lit).split Or.nil.lit).split Or.nil))))))) [Item.ir ir3] (start [AV.p false (PV.sl nn (1 : Nat) n (PB f))] []) = VC.split (decide ((1048576 : Int) < (↑n : Int))) (VC.doneP (AV.p true (PV.v (Value.bool true)))) (VC.callE DP (14 : Nat) [AV.p false (PV.sl nn (1 : Nat) n (PB f))] [] DpOk dpR (fun (x : DP) => []) fun (x : DP) => VC.call (15 : Nat) [AV.ag [AV.p false (PV.sl false (1 : Nat) x.T.length (BB x.T)), AV.p false (PV.sl false (3 : Nat) x.S.length (SB x.S))], AV.p false (PV.sl false (4 : Nat) x.U.length (UB x.U))] [] (AV.own (0 : Nat)) (pH x.T x.S x.U) (VC.call (17 : Nat) [AV.ag [AV.p false (PV.sl false (1 : Nat) x.T.length (BB x.T)), AV.p false (PV.sl false (3 : Nat) x.S.length (SB x.S))], AV.p false (PV.sl false (4 : Nat) x.U.length (UB x.U))] [] (AV.own (0 : Nat)) (pH x.T x.S x.U) (VC.call (16 : Nat) [AV.p false (PV.sl false (1 : Nat) ((3 : Nat) * pN x.T x.S x.U) fun (i x_1 : Nat) => PI (pF x.T x.S x.U i)), AV.p false (PV.sl false (1 : Nat) ((3 : Nat) * pN x.T x.S x.U) fun (i x_1 : Nat) => PI (pF x.T x.S x.U i))] [] (AB (sameI ((3 : Nat) * pN x.T x.S x.U) (pF x.T x.S x.U) ((3 : Nat) * pN x.T x.S x.U) (pF x.T x.S x.U))) [] (VC.split (!sameI ((3 : Nat) * pN x.T x.S x.U) (pF x.T x.S x.U) ((3 : Nat) * pN x.T x.S x.U) (pF x.T x.S x.U)) (VC.doneP (AV.p true (PV.v (Value.bool false)))) (VC.call (18 : Nat) [AV.ag [AV.p false (PV.sl false (1 : Nat) x.T.length (BB x.T)), AV.p false (PV.sl false (3 : Nat) x.S.length (SB x.S))], AV.p false (PV.sl false (4 : Nat) x.U.length (UB x.U))] [] (rR x.T x.S x.U) (rH x.T x.S x.U) (VC.split (!rAll x.T x.S x.U) (VC.need ((3 : Int) ≠ (0 : Int)) (VC.split ((↑((3 : Nat) * pN x.T x.S x.U) : Int).tmod (3 : Int) == (0 : Int)) (VC.call (19 : Nat) [] [] (AB true) [] (VC.doneP (AV.p true (PV.v (Value.bool true))))) (VC.doneP (AV.p true (PV.v (Value.bool false)))))) (VC.loop ir3_L1 [Item.bend (0 : Nat), Item.ir ir3_T2] (St.mk [((0 : Nat), AV.p false (PV.sl nn (1 : Nat) n (PB f))), ((2 : Nat), AV.p true (PV.v (Value.bool false))), ((15 : Nat), AV.p true (PV.v (Value.bool (decide ((1048576 : Int) < (↑n : Int)))))), ((3 : Nat), AV.adr (3 : Nat) (0 : Nat)), ((4 : Nat), AV.p true (PV.sl false (4 : Nat) x.U.length (UB x.U))), ((5 : Nat), AV.own (1023 : Nat)), ((29 : Nat), AV.p true (PV.v (Value.bool !sameI ((3 : Nat) * pN x.T x.S x.U) (pF x.T x.S x.U) ((3 : Nat) * pN x.T x.S x.U) (pF x.T x.S x.U)))), ((8 : Nat), AV.own (4033 : Nat)), ((9 : Nat), AV.p true (PV.v (Value.bool (rAll x.T x.S x.U)))), ((39 : Nat), AV.p true (PV.v (Value.bool !rAll x.T x.S x.U))), ((10 : Nat), AV.own (47 : Nat)), ((11 : Nat), AV.p true (PV.v (Value.int IntKind.i64 (0 : Int))))] [((3 : Nat), Ob.box [AV.p true (PV.sl false (1 : Nat) x.T.length (BB x.T)), AV.p true (PV.sl false (3 : Nat) x.S.length (SB x.S))]), ((1023 : Nat), Ob.row Mode.u false (1 : Nat) ((3 : Nat) * pN x.T x.S x.U) (fun (i x_1 : Nat) => PI (pF x.T x.S x.U i)) []), ((4033 : Nat), Ob.row Mode.u false (1 : Nat) ((3 : Nat) * rN x.T x.S x.U) (fun (i x_1 : Nat) => PI (rB x.T x.S x.U i)) []), ((47 : Nat), Ob.row Mode.u true (4 : Nat) (0 : Nat) (setG [] fun (x_1 j : Nat) => PV.v ([Value.int IntKind.i64 (0 : Int), Value.bool false, Value.int IntKind.i64 (0 : Int), Value.int IntKind.i64 (0 : Int)].getD j undef)) [])])))))))) := by intros; kernel_rfl
def otK (U : List Us) (k : Nat) : Us := ⟨(U.getD k u0).a, !(U.getD k u0).w, (k : Int), (U.getD k u0).l⟩
def otL (U : List Us) (j : Nat) : List Us := (List.range j).map (otK U)
theorem otL_len (U : List Us) (j : Nat) : (otL U j).length = j := by simp [otL]
theorem otL_succ (U : List Us) (j : Nat) : otL U (j + 1) = otL U j ++ [otK U j] := by simp [otL, List.range_succ]
theorem otL_get {U : List Us} {j k : Nat} (h : k < j) : (otL U j).getD k u0 = otK U k := by
  rw [List.getD_eq_getElem?_getD]
  simp [otL, h]
theorem ot_st {U : List Us} {j k : Nat} (h : k < j) : pSt (otL U j) k = pSt U k := by
  simp only [pSt, otL_get h, otK]
theorem ot_plf (T : List (List Blk)) (S : List Blk) {U : List Us} {j : Nat} : ∀ {k}, k ≤ j → ∀ y, plf T S (otL U j) k y = plf T S U k y
  | 0, _, _ => rfl
  | k + 1, h, y => by
    simp only [plf, otL_get (show k < j by omega), ot_plf T S (show k ≤ j by omega) y, otK]
theorem r_pst {T : List (List Blk)} {S : List Blk} {U : List Us} (h : rAll T S U = true) {k : Nat} (hk : k < U.length) : pSt U k = true := by
  simp only [rAll, Bool.and_eq_true, allB_iff] at h
  have := h.2 k hk
  simp only [rOk, useOk, Bool.and_eq_true] at this
  simp only [pSt, Bool.and_eq_true]
  exact ⟨this.1.1.2, this.2⟩
theorem r_pAll {T : List (List Blk)} {S : List Blk} {U : List Us} (h : rAll T S U = true) : pAll T S U = true := by
  have h2 := h
  simp only [rAll, Bool.and_eq_true] at h
  simp only [pAll, Bool.and_eq_true]
  exact ⟨h.1, allB_iff.2 fun k hk => r_pst h2 hk⟩
theorem r_pF {T : List (List Blk)} {S : List Blk} {U : List Us} (h : rAll T S U = true) {i : Nat} (hi : i < 3 * U.length) : pF T S U i = rB T S U i := by
  have hs := r_pst h (k := i / 3) (by omega)
  simp only [rAll, Bool.and_eq_true, allB_iff] at h
  simp only [pSt, Bool.and_eq_true] at hs
  have := (run_leaf h.1.1 (k := i / 3) fun j hj => h.2 j (by omega)).2 _ hs.1
  simp only [pF, rB, this]
theorem ot_pAll {T : List (List Blk)} {S : List Blk} {U : List Us} (h : rAll T S U = true) : pAll T S (otL U U.length) = true := by
  have h2 := h
  simp only [rAll, Bool.and_eq_true] at h
  simp only [pAll, Bool.and_eq_true, otL_len]
  exact ⟨h.1, allB_iff.2 fun k hk => by rw [ot_st hk]; exact r_pst h2 hk⟩
theorem ot_pF {T : List (List Blk)} {S : List Blk} {U : List Us} {i : Nat} (hi : i < 3 * U.length) : pF T S (otL U U.length) i = pF T S U i := by
  simp only [pF, otL_get (show i / 3 < U.length by omega), ot_plf T S (show i / 3 ≤ U.length by omega), otK]
def st_lPF (T : List (List Blk)) (S : List Blk) (U : List Us) (k : Nat) : St := ⟨[(3, .adr 3 0), (4, .p true (.sl false 4 U.length (UB U))), (5, .own 1023), (8, .own 4033), (10, .own 47), (11, AI k)], [(3, .box [.p true (.sl false 1 T.length (BB T)), .p true (.sl false 3 S.length (SB S))]), (1023, .row .u false 1 (3 * pN T S U) (fun i _ => PI (pF T S U i)) []), (4033, .row .u false 1 (3 * rN T S U) (fun i _ => PI (rB T S U i)) []), (47, .row .u false 4 (otL U k).length (UB (otL U k)) [])]⟩
def r_lPF (T : List (List Blk)) (S : List Blk) (U : List Us) (I : Nat → St → Prop) (k : Nat) := (G0, res3, ([] : List (Nat × Ob)), [Item.ir ir3_L1, .lend (I k), Item.bend 0, Item.ir ir3_T2], st_lPF T S U k)
theorem evr_lPF : ∀ (T : List (List Blk)) (S : List Blk) (U : List Us) (I : Nat → St → Prop) (k : Nat), ev G0 res3 [] (3000 : Nat) (Or.nil.split (Or.call [] (AB (sameI ((3 : Nat) * pN T S U) (pF T S U) ((3 : Nat) * rN T S U) (rB T S U))) [] ((Or.call [] (AV.own (0 : Nat)) (pH T S (otL U k)) (Or.call [] (AB (sameI ((3 : Nat) * pN T S (otL U k)) (pF T S (otL U k)) ((3 : Nat) * pN T S U) (pF T S U))) [] Or.nil.lit).lit.lit).lit.lit.split Or.nil.lit.lit.lit.lit.lit))) [Item.ir ir3_L1, Item.lend (I k), Item.bend (0 : Nat), Item.ir ir3_T2] (st_lPF T S U k) = VC.split (decide ((↑k : Int) < (↑U.length : Int))) (VC.need ((0 : Int) ≤ (↑k : Int) ∧ (↑k : Int).toNat < U.length) (VC.need ((((otL U k).length + (1 : Nat)) * (32 : Nat) ≤ (140737488355328 : Nat) ∧ (↑((otL U k).length + (1 : Nat)) : Int) ≤ (9223372036854775807 : Int)) ∧ allV (4 : Nat) (1 : Nat) (setG [((0 : Nat), (0 : Nat), PV.v (Value.int IntKind.i64 (U.getD (↑k : Int).toNat u0).a)), ((0 : Nat), (1 : Nat), PV.v (Value.bool !(U.getD (↑k : Int).toNat u0).w)), ((0 : Nat), (2 : Nat), PV.v (Value.int IntKind.i64 (↑k : Int))), ((0 : Nat), (3 : Nat), PV.v (Value.int IntKind.i64 (U.getD (↑k : Int).toNat u0).l))] fun (x j : Nat) => PV.v ([Value.int IntKind.i64 (0 : Int), Value.bool false, Value.int IntKind.i64 (0 : Int), Value.int IntKind.i64 (0 : Int)].getD j undef))) (VC.lend (I k) (St.mk [((3 : Nat), AV.adr (3 : Nat) (0 : Nat)), ((4 : Nat), AV.p true (PV.sl false (4 : Nat) U.length (UB U))), ((5 : Nat), AV.own (1023 : Nat)), ((8 : Nat), AV.own (4033 : Nat)), ((10 : Nat), AV.own (67 : Nat)), ((11 : Nat), AV.p true (PV.v (Value.int IntKind.i64 (IntKind.i64.wrap ((↑k : Int) + (1 : Int)))))), ((51 : Nat), AV.p true (PV.v (Value.bool (decide ((↑k : Int) < (↑U.length : Int)))))), ((12 : Nat), AV.adr (12 : Nat) (0 : Nat))] [((3 : Nat), Ob.box [AV.p true (PV.sl false (1 : Nat) T.length (BB T)), AV.p true (PV.sl false (3 : Nat) S.length (SB S))]), ((1023 : Nat), Ob.row Mode.u false (1 : Nat) ((3 : Nat) * pN T S U) (fun (i x : Nat) => PI (pF T S U i)) []), ((4033 : Nat), Ob.row Mode.u false (1 : Nat) ((3 : Nat) * rN T S U) (fun (i x : Nat) => PI (rB T S U i)) []), ((12 : Nat), Ob.box [AV.p true (PV.v (Value.int IntKind.i64 (U.getD (↑k : Int).toNat u0).a)), AV.p true (PV.v (Value.bool !(U.getD (↑k : Int).toNat u0).w)), AV.p true (PV.v (Value.int IntKind.i64 (↑k : Int))), AV.p true (PV.v (Value.int IntKind.i64 (U.getD (↑k : Int).toNat u0).l))]), ((67 : Nat), Ob.row Mode.u false (4 : Nat) ((otL U k).length + (1 : Nat)) (fun (a b : Nat) => if a < (otL U k).length then UB (otL U k) a b else setG [((0 : Nat), (0 : Nat), PV.v (Value.int IntKind.i64 (U.getD (↑k : Int).toNat u0).a)), ((0 : Nat), (1 : Nat), PV.v (Value.bool !(U.getD (↑k : Int).toNat u0).w)), ((0 : Nat), (2 : Nat), PV.v (Value.int IntKind.i64 (↑k : Int))), ((0 : Nat), (3 : Nat), PV.v (Value.int IntKind.i64 (U.getD (↑k : Int).toNat u0).l))] (fun (x j : Nat) => PV.v ([Value.int IntKind.i64 (0 : Int), Value.bool false, Value.int IntKind.i64 (0 : Int), Value.int IntKind.i64 (0 : Int)].getD j undef)) (a - (otL U k).length) b) [])])))) (VC.call (16 : Nat) [AV.p false (PV.sl false (1 : Nat) ((3 : Nat) * pN T S U) fun (i x : Nat) => PI (pF T S U i)), AV.p false (PV.sl false (1 : Nat) ((3 : Nat) * rN T S U) fun (i x : Nat) => PI (rB T S U i))] [] (AB (sameI ((3 : Nat) * pN T S U) (pF T S U) ((3 : Nat) * rN T S U) (rB T S U))) [] (VC.split (sameI ((3 : Nat) * pN T S U) (pF T S U) ((3 : Nat) * rN T S U) (rB T S U)) (VC.call (15 : Nat) [AV.ag [AV.p false (PV.sl false (1 : Nat) T.length (BB T)), AV.p false (PV.sl false (3 : Nat) S.length (SB S))], AV.p false (PV.sl false (4 : Nat) (otL U k).length (UB (otL U k)))] [] (AV.own (0 : Nat)) (pH T S (otL U k)) (VC.call (16 : Nat) [AV.p false (PV.sl false (1 : Nat) ((3 : Nat) * pN T S (otL U k)) fun (i x : Nat) => PI (pF T S (otL U k) i)), AV.p false (PV.sl false (1 : Nat) ((3 : Nat) * pN T S U) fun (i x : Nat) => PI (pF T S U i))] [] (AB (sameI ((3 : Nat) * pN T S (otL U k)) (pF T S (otL U k)) ((3 : Nat) * pN T S U) (pF T S U))) [] (VC.doneP (AV.p true (PV.v (Value.bool (sameI ((3 : Nat) * pN T S (otL U k)) (pF T S (otL U k)) ((3 : Nat) * pN T S U) (pF T S U)))))))) (VC.doneP (AV.p true (PV.v (Value.bool false)))))) := by intros; kernel_rfl
theorem c_lPF (nn : Bool) (n : Nat) (f : Nat → Int) (hb : Bytes f) : PRet Tryd.prog G0 3 [.p false (.sl nn 1 n (PB f))] (AB true) := by
  refine PRet.by chk3 (ev_lPF nn n f) ?_
  simp only [VC.holds_split, VC.holds_need, VC.holds_doneP, VC.holds_done, VC.holds_either, VC.holds_call, VC.holds_callE, VC.holds_lend, VC.holds_stop, VC.holds_fail, decide_eq_true_eq, decide_eq_false_iff_not]
  refine ⟨fun _ => by simp, fun _ => ⟨c_dPF _ _ _ hb, ?_⟩⟩
  rintro ⟨T, S, U⟩ hd
  obtain ⟨hT, hS, hU⟩ := hd
  simp only [] at hT hS hU ⊢
  have hN : pN T S U ≤ 50 := by unfold pN; split <;> omega
  have e0 := sameI_rfl (n := 3 * pN T S U) (f := pF T S U) (g := pF T S U) fun i _ => rfl
  simp only [e0, Bool.not_true]
  have q0 := c_same0 false false (3 * pN T S U) (pF T S U) (3 * pN T S U) (pF T S U) (by omega)
  rw [e0] at q0
  refine ⟨c_imP T S U (by omega) (by omega), c_spP T S U (by omega) (by omega), q0, fun e => (by cases e), fun _ => ⟨c_imR T S U (by omega) (by omega), fun h1 => ⟨by decide, fun _ => ⟨c_alive, by simp⟩, fun h2 => ?_⟩, fun h1 => ?_⟩⟩
  · exfalso
    have : ((3 * pN T S U : Nat) : Int).tmod 3 = 0 := by
      rw [Int.tmod_eq_emod_of_nonneg (by omega)]; omega
    rw [this] at h2; cases h2
  · have ha : rAll T S U = true := by simpa using h1
    have hp := r_pAll ha
    have hq := ot_pAll ha
    have hN : pN T S U = U.length := by simp only [pN, hp, if_true]
    have hN2 : pN T S (otL U U.length) = U.length := by simp only [pN, hq, if_true, otL_len]
    have hR : rN T S U = U.length := (r_yes ha).2.2
    refine loop_by (st_lPF T S U) (fun k => k ≤ U.length) (fun k => U.length - k) 0 [] [] [] (Nat.zero_le _) ?_ (evr_lPF T S U) fun k hk => ?_
    · simp only [st_lPF, hN, hR]
      generalize BB T = GT at *
      generalize SB S = GS at *
      generalize UB U = GU at *
      simp [hbs, St.lowers, St.lower, stLe, leEnv, leObs, obLe, injB, pinC, AV.leC, AV.leCs, PV.leC, PV.Le_v, St.get, St.obj, look, rho, isNew, keptC, renH, Mode.ok, Mode.isZ, PV.isVal, PV.isNilSl, List.all_nil, List.all_cons, List.any_nil, List.any_cons, List.map_nil, List.map_cons, PV.Le_self, otL]
    · have ek : IntKind.i64.wrap ((k : Int) + 1) = ((k + 1 : Nat) : Int) := wrap_in (by omega) (by omega)
      simp only [VC.holds_split, VC.holds_need, VC.holds_doneP, VC.holds_done, VC.holds_either, VC.holds_call, VC.holds_callE, VC.holds_lend, VC.holds_stop, VC.holds_fail, decide_eq_true_eq, decide_eq_false_iff_not, Int.toNat_natCast]
      refine ⟨fun h2 => ⟨⟨by omega, by omega⟩, ⟨⟨by rw [otL_len]; omega, by rw [otL_len]; omega⟩, ?_⟩, Again.mk (k + 1) [] [(47, 67)] [] (by omega) (by omega) ?_⟩, fun h2 => ?_⟩
      · intro i j hi hj
        obtain rfl : i = 0 := by omega
        match j, hj with
        | 0, _ => rfl
        | 1, _ => rfl
        | 2, _ => rfl
        | 3, _ => rfl
      · have key := fun i j hi hj => UB_app (U := otL U k) (x := otK U k) (F := setG [(0, 0, .v (.int .i64 (U.getD k u0).a)), (0, 1, .v (.bool !(U.getD k u0).w)), (0, 2, .v (.int .i64 (k : Int))), (0, 3, .v (.int .i64 (U.getD k u0).l))] fun _ j => .v ([Value.int IntKind.i64 0, Value.bool false, Value.int IntKind.i64 0, Value.int IntKind.i64 0].getD j undef)) (fun j hj => by
          match j, hj with
          | 0, _ => rfl
          | 1, _ => rfl
          | 2, _ => rfl
          | 3, _ => rfl) (i := i) (j := j) hi hj
        rw [← otL_succ] at key
        have e1 : (otL U (k + 1)).length = (otL U k).length + 1 := by simp [otL_len]
        simp only [st_lPF, e1, ek]
        generalize UB (otL U (k + 1)) = G at *
        generalize UB (otL U k) = G' at *
        generalize BB T = GT at *
        generalize SB S = GS at *
        generalize UB U = GU at *
        generalize U.getD k u0 = w at *
        simp [hbs, St.lowers, St.lower, stLe, leEnv, leObs, obLe, injB, pinC, AV.leC, AV.leCs, PV.leC, PV.Le_v, St.get, St.obj, look, rho, isNew, keptC, renH, Mode.ok, Mode.isZ, PV.isVal, PV.isNilSl, List.all_nil, List.all_cons, List.any_nil, List.any_cons, List.map_nil, List.map_cons, PV.Le_self]
        exact key
      · have hkU : k = U.length := by omega
        subst hkU
        have s1 : sameI (3 * pN T S U) (pF T S U) (3 * rN T S U) (rB T S U) = true := by
          rw [hN, hR]; exact sameI_rfl fun i hi => r_pF ha hi
        have s2 : sameI (3 * pN T S (otL U U.length)) (pF T S (otL U U.length)) (3 * pN T S U) (pF T S U) = true := by
          rw [hN, hN2]; exact sameI_rfl fun i hi => ot_pF hi
        have q1 := c_same0 false false (3 * pN T S U) (pF T S U) (3 * rN T S U) (rB T S U) (by omega)
        have q2 := c_same0 false false (3 * pN T S (otL U U.length)) (pF T S (otL U U.length)) (3 * pN T S U) (pF T S U) (by omega)
        rw [s1] at q1 ⊢
        rw [s2] at q2 ⊢
        exact ⟨q1, fun _ => ⟨c_imP T S _ (by omega) (by omega), q2, by simp⟩, fun e => (by cases e)⟩
theorem law_FnPathsFor (xs : List AV) (h : Args Tryd.prog Tryd.f3.params.toList xs) : PRet Tryd.prog G0 3 xs (AB true) := by
  have hp : Tryd.f3.params.toList = [22] := by kernel_rfl
  rw [hp] at h
  obtain ⟨nn, n, f, c, cs, hb, h2, rfl, hle⟩ := args_bytes h
  cases h2
  exact (c_lPF nn n f hb).args ⟨hle, trivial⟩
end Go.Gw
