/- The buckets that uses will use, by the program and by the model; with no condition. -/
import Derived.Test.YtopnhnnfobbocaaDoorPathFacts
import Derived.KernelRfl
namespace Go.Gw
open Go Go.Proofs
set_option linter.unusedSimpArgs false
set_option linter.unusedVariables false
set_option maxRecDepth 100000
def ir15_L1 : Ir :=
  (.seq
  (.reg [] [o 24 (.bin .lss (tt 23) (tt 22))])
  (.seq
  (.cond (tt 24)
   .skip
   (.exit 0))
  (.seq
  (.block 1
   (.seq
   (.reg [25, 26] [o 25 (.idx 3 (tt 21) (tt 23)),
     o 26 (.load true 3 (tt 25)),
     o 7 (.alloc [(.int .i64 0), (.int .i64 0), (.int .i64 0)]),
     on (.store 3 (tt 7) (tt 26))])
   (.reg [27, 28, 29, 30, 31] [o 27 (.mov (tt 5)),
     o 28 (.fadr 0 (tt 7)),
     o 29 (.load false 1 (tt 28)),
     o 30 (.fadr 2 (tt 7)),
     o 31 (.load false 1 (tt 30)),
     on (.updM (tt 27) (tt 29) (tt 31))])))
  (.reg [32] [o 32 (.bin .add (tt 23) (ci 1)),
    o 23 (.mov (tt 32))]))))
def ir15_L2 : Ir :=
  (.seq
  (.reg [] [o 36 (.bin .lss (tt 35) (tt 34))])
  (.seq
  (.cond (tt 36)
   .skip
   (.exit 2))
  (.seq
  (.block 3
   (.seq
   (.reg [37, 38] [o 37 (.idx 4 (tt 33) (tt 35)),
     o 38 (.load true 4 (tt 37)),
     o 10 (.alloc [(.int .i64 0), (.bool false), (.int .i64 0), (.int .i64 0)]),
     on (.store 4 (tt 10) (tt 38))])
   (.seq
   (.seq
   (.reg [39, 40, 41, 42, 43, 44, 45, 46, 47] [o 39 (.fadr 0 (tt 10)),
     o 40 (.load false 1 (tt 39)),
     o 41 (.call 60 [(tt 40)]),
     o 42 (.un .not (tt 41)),
     o 43 (.mov (tt 42)),
     og 44 43 false (.fadr 3 (tt 10)),
     og 45 43 false (.load false 1 (tt 44)),
     og 46 43 false (.call 61 [(tt 45)]),
     og 47 43 false (.un .not (tt 46)),
     o 48 (.pick (tt 43) (cb true) (tt 47))])
   (.cond (tt 48)
    (.seq
    (.reg [] [o 4 (.mov (.const (.slice none 0 0)))])
    .ret)
    .skip))
   (.seq
   (.reg [49, 50, 51, 52, 53, 54, 55] [o 49 (.mov (tt 8)),
     o 50 (.mov (tt 5)),
     o 51 (.fadr 0 (tt 10)),
     o 52 (.load false 1 (tt 51)),
     o 53 (.lookM (.int .i64 0) (tt 50) (tt 52)),
     o 54 (.call 62 [(tt 53)]),
     o 55 (.app 1 8 true (tt 49) (tt 54)),
     o 8 (.mov (tt 55))])
   (.reg [56, 57, 58, 59, 60] [o 56 (.mov (tt 5)),
     o 57 (.fadr 0 (tt 10)),
     o 58 (.load false 1 (tt 57)),
     o 59 (.fadr 3 (tt 10)),
     o 60 (.load false 1 (tt 59)),
     on (.updM (tt 56) (tt 58) (tt 60))])))))
  (.reg [61] [o 61 (.bin .add (tt 35) (ci 1)),
    o 35 (.mov (tt 61))]))))
def ir15_T3 : Ir :=
  (.seq
  (.reg [62] [o 62 (.mov (tt 8)),
    o 4 (.mov (tt 62))])
  .ret)
def ir15_T4 : Ir :=
  (.seq
  (.reg [] [o 8 (.mov (.const (.slice none 0 0)))])
  (.seq
  (.seq
  (.reg [] [o 33 (.mov (tt 1)),
    o 34 (.len (tt 33)),
    o 35 (.mov (ci 0))])
  (.block 2
   (.loop ir15_L2)))
  ir15_T3))
def ir15 : Ir :=
  (.seq
  (.reg [] [o 2 (.box 2 (tt 0)),
    o 4 (.mov (.const (.slice none 0 0)))])
  (.seq
  (.seq
  (.reg [11, 12, 13, 14, 15, 16, 17] [o 11 (.load true 2 (tt 2)),
    o 12 (.call 58 [(tt 11)]),
    o 13 (.un .not (tt 12)),
    o 14 (.mov (tt 13)),
    og 15 14 false (.mov (tt 1)),
    og 16 14 false (.len (tt 15)),
    og 17 14 false (.bin .gtr (tt 16) (ci 40)),
    o 18 (.pick (tt 14) (cb true) (tt 17))])
  (.cond (tt 18)
   (.seq
   (.reg [] [o 4 (.mov (.const (.slice none 0 0)))])
   .ret)
   .skip))
  (.seq
  (.reg [19] [o 19 (.mkM),
    o 5 (.mov (tt 19))])
  (.seq
  (.seq
  (.reg [20] [o 20 (.load true 2 (tt 2)),
    o 21 (.call 59 [(tt 20)]),
    o 22 (.len (tt 21)),
    o 23 (.mov (ci 0))])
  (.block 0
   (.loop ir15_L1)))
  ir15_T4))))
def keep15 : List Nat := [0, 1, 2, 4, 5, 7, 8, 10, 18, 21, 22, 23, 24, 33, 34, 35, 36, 48]
def res15 : List RI := [.tmp 4]
theorem chk15 : chk Tryd.prog 15 2 keep15 = some (ir15, res15) := by kernel_rfl
def ir17_L1 : Ir :=
  (.seq
  (.seq
  (.reg [49, 50] [o 49 (.mov (tt 8)),
    o 50 (.mov (tt 6)),
    o 51 (.bin .lss (tt 49) (tt 50))])
  (.cond (tt 51)
   .skip
   (.exit 2)))
  (.seq
  (.block 3
   (.seq
   (.dreg [54, 55, 56, 57, 58, 59, 60, 61, 62, 63] [0, 0, 3, 7, 15, 0, 0, 96, 224, 480, 1023] [(4, 1058), (9, 1063)] [o 54 (.mov (tt 1)),
     o 55 (.mov (tt 8)),
     o 56 (.idx 4 (tt 54) (tt 55)),
     o 57 (.fadr 0 (tt 56)),
     o 58 (.load false 1 (tt 57)),
     o 59 (.mov (tt 1)),
     o 60 (.mov (tt 6)),
     o 61 (.idx 4 (tt 59) (tt 60)),
     o 62 (.fadr 0 (tt 61)),
     o 63 (.load false 1 (tt 62)),
     o 64 (.bin .eql (tt 58) (tt 63))])
   (.cond (tt 64)
    (.reg [65, 66, 67, 68, 69] [o 65 (.mov (tt 1)),
      o 66 (.mov (tt 8)),
      o 67 (.idx 4 (tt 65) (tt 66)),
      o 68 (.fadr 3 (tt 67)),
      o 69 (.load false 1 (tt 68)),
      o 7 (.mov (tt 69))])
    .skip)))
  (.reg [52, 53] [o 52 (.mov (tt 8)),
    o 53 (.bin .add (tt 52) (ci 1)),
    o 8 (.mov (tt 53))])))
def ir17_T2 : Ir :=
  (.reg [70, 71, 72, 73] [o 70 (.mov (tt 5)),
    o 71 (.mov (tt 7)),
    o 72 (.call 66 [(tt 71)]),
    o 73 (.app 1 8 true (tt 70) (tt 72)),
    o 5 (.mov (tt 73))])
def ir17_T3 : Ir :=
  (.reg [23, 24] [o 23 (.mov (tt 6)),
    o 24 (.bin .add (tt 23) (ci 1)),
    o 6 (.mov (tt 24))])
def ir17_L4 : Ir :=
  (.seq
  (.seq
  (.reg [19, 20, 21] [o 19 (.mov (tt 6)),
    o 20 (.mov (tt 1)),
    o 21 (.len (tt 20)),
    o 22 (.bin .lss (tt 19) (tt 21))])
  (.cond (tt 22)
   .skip
   (.exit 0)))
  (.seq
  (.block 1
   (.seq
   (.seq
   (.reg [25, 26, 27, 28, 29, 30, 31, 32, 33, 34, 35, 36, 37, 38, 39] [o 25 (.mov (tt 1)),
     o 26 (.mov (tt 6)),
     o 27 (.idx 4 (tt 25) (tt 26)),
     o 28 (.fadr 0 (tt 27)),
     o 29 (.load false 1 (tt 28)),
     o 30 (.call 64 [(tt 29), (ci 0), (ci 7)]),
     o 31 (.un .not (tt 30)),
     o 32 (.mov (tt 31)),
     og 33 32 false (.mov (tt 1)),
     og 34 32 false (.mov (tt 6)),
     og 35 32 false (.idx 4 (tt 33) (tt 34)),
     og 36 32 false (.fadr 3 (tt 35)),
     og 37 32 false (.load false 1 (tt 36)),
     og 38 32 false (.call 64 [(tt 37), (ci 0), (ci 3)]),
     og 39 32 false (.un .not (tt 38)),
     o 40 (.pick (tt 32) (cb true) (tt 39))])
   (.cond (tt 40)
    (.seq
    (.reg [41] [o 41 (.mkSl 1 0 [(.int .i64 0)] []),
      o 4 (.mov (tt 41))])
    .ret)
    .skip))
   (.seq
   (.dreg [42, 43, 44, 45, 46, 47, 48] [0, 0, 0, 6, 14, 30, 63, 127] [(0, 1042), (0, 2042), (5, 1047), (6, 1048), (6, 2048), (6, 3048), (6, 4048), (6, 5048), (6, 6048), (6, 7048), (6, 8048)] [o 42 (.load true 2 (tt 2)),
     o 43 (.mov (tt 1)),
     o 44 (.mov (tt 6)),
     o 45 (.idx 4 (tt 43) (tt 44)),
     o 46 (.fadr 0 (tt 45)),
     o 47 (.load false 1 (tt 46)),
     o 48 (.call 65 [(tt 42), (tt 47)]),
     o 7 (.mov (tt 48))])
   (.seq
   (.seq
   (.reg [] [o 8 (.mov (ci 0))])
   (.block 2
    (.loop ir17_L1)))
   ir17_T2))))
  ir17_T3))
def ir17_T5 : Ir :=
  (.seq
  (.reg [74] [o 74 (.mov (tt 5)),
    o 4 (.mov (tt 74))])
  .ret)
def ir17 : Ir :=
  (.seq
  (.reg [] [o 2 (.box 2 (tt 0)),
    o 4 (.mov (.const (.slice none 0 0)))])
  (.seq
  (.reg [9] [o 9 (.mkSl 1 0 [(.int .i64 0)] []),
    o 5 (.mov (tt 9))])
  (.seq
  (.seq
  (.reg [10, 11, 12, 13, 14, 15, 16] [o 10 (.load true 2 (tt 2)),
    o 11 (.call 63 [(tt 10)]),
    o 12 (.un .not (tt 11)),
    o 13 (.mov (tt 12)),
    og 14 13 false (.mov (tt 1)),
    og 15 13 false (.len (tt 14)),
    og 16 13 false (.bin .gtr (tt 15) (ci 40)),
    o 17 (.pick (tt 13) (cb true) (tt 16))])
  (.cond (tt 17)
   (.seq
   (.reg [18] [o 18 (.mov (tt 5)),
     o 4 (.mov (tt 18))])
   .ret)
   .skip))
  (.seq
  (.seq
  (.reg [] [o 6 (.mov (ci 0))])
  (.block 0
   (.loop ir17_L4)))
  ir17_T5))))
def keep17 : List Nat := [0, 1, 2, 4, 5, 6, 7, 8, 17, 22, 40, 51, 64]
def res17 : List RI := [.tmp 4]
theorem chk17 : chk Tryd.prog 17 2 keep17 = some (ir17, res17) := by kernel_rfl

def pSt (U : List Us) (k : Nat) : Bool := inB (U.getD k u0).a 0 7 && inB (U.getD k u0).l 0 3
def pAll (T : List (List Blk)) (S : List Blk) (U : List Us) : Bool := memB T S && decide (U.length ≤ 40) && allB (pSt U) U.length
def pN (T : List (List Blk)) (S : List Blk) (U : List Us) : Nat := if pAll T S U then U.length else 0
def pF (T : List (List Blk)) (S : List Blk) (U : List Us) (i : Nat) : Int := litI (pathL (plf T S U (i / 3) (U.getD (i / 3) u0).a)) (i % 3)
abbrev pH (T : List (List Blk)) (S : List Blk) (U : List Us) : List (Nat × Ob) := [(0, .row .u false 1 (3 * pN T S U) (fun i _ => PI (pF T S U i)) [])]
theorem plf_rng {T : List (List Blk)} {S : List Blk} {U : List Us} (hv : memB T S = true) : ∀ {k}, (∀ j, j < k → pSt U j = true) → ∀ y, inB y 0 7 = true → 0 ≤ plf T S U k y ∧ plf T S U k y ≤ 3
  | 0, _, y, hy => by
    have m := mem_ok hv
    exact ok_l (m.ok (blkOf_mem ((m.has y).2 hy)).1)
  | k + 1, h, y, hy => by
    simp only [plf]
    split
    · have := h k (by omega)
      simp only [pSt, Bool.and_eq_true] at this
      exact inB_iff.1 this.2
    · exact plf_rng hv (fun j hj => h j (by omega)) y hy
def lmF (A : List Blk) : Nat → Int → Option Value
  | 0, _ => none
  | k + 1, y => if y = (A.getD k b0).a then some (.int .i64 (A.getD k b0).l) else lmF A k y
theorem lm_none {A : List Blk} {y : Int} : ∀ {k}, seenB A k y = false → lmF A k y = none
  | 0, _ => rfl
  | k + 1, h => by
    rw [seenB_up, Bool.or_eq_false_iff] at h
    simp only [lmF]
    have : ¬ y = (A.getD k b0).a := fun e => by have h2 := h.2; simp [e] at h2
    rw [if_neg this]; exact lm_none h.1
theorem lm_some {A : List Blk} {y : Int} {l : Int} (hl : ∀ j, j < A.length → (A.getD j b0).a = y → (A.getD j b0).l = l) : ∀ {k}, k ≤ A.length → seenB A k y = true → lmF A k y = some (.int .i64 l)
  | 0, _, h => by simp [seenB, allB] at h
  | k + 1, hk, h => by
    simp only [lmF]
    by_cases c : y = (A.getD k b0).a
    · rw [if_pos c, hl k (by omega) c.symm]
    · rw [if_neg c]
      rw [seenB_up, Bool.or_eq_true] at h
      rcases h with h | h
      · exact lm_some hl (by omega) h
      · exact absurd (by simpa using h) (fun e : (A.getD k b0).a = y => c e.symm)
def pfF (T : List (List Blk)) (S : List Blk) (U : List Us) (k : Nat) (y : Int) : Option Value := if inB y 0 7 = true then some (.int .i64 (plf T S U k y)) else none
theorem lm_all {T : List (List Blk)} {S : List Blk} (U : List Us) (hv : memB T S = true) (y : Int) : lmF (S ++ T.flatten) (S ++ T.flatten).length y = pfF T S U 0 y := by
  have m := mem_ok hv
  unfold pfF
  by_cases h : inB y 0 7 = true
  · rw [if_pos h]
    have hf := (m.has y).2 h
    refine lm_some (fun j hj ha => ?_) (Nat.le_refl _) ?_
    · rw [blk_uniq m.hv hf (getD_mem hj) ha]; rfl
    · have := (ixP_iff (fun j => ((S ++ T.flatten).getD j b0).a == y) (S ++ T.flatten).length).1 hf
      unfold seenB; rw [this]; rfl
  · rw [if_neg h]
    refine lm_none ?_
    have : ¬ 0 ≤ fndB (S ++ T.flatten) y := fun e => h ((m.has y).1 e)
    unfold fndB at this
    rw [ixP_iff] at this
    unfold seenB
    simpa using this
theorem pf_up {T : List (List Blk)} {S : List Blk} {U : List Us} {k : Nat} (h : pSt U k = true) (y : Int) : pfF T S U (k + 1) y = if y = (U.getD k u0).a then some (.int .i64 (U.getD k u0).l) else pfF T S U k y := by
  simp only [pSt, Bool.and_eq_true] at h
  unfold pfF
  simp only [plf]
  by_cases c : y = (U.getD k u0).a
  · rw [if_pos c, c, if_pos h.1, if_pos rfl]
  · have c' : ¬ (U.getD k u0).a = y := fun e => c e.symm
    rw [if_neg c]; simp only [if_neg c']
theorem pf_get {T : List (List Blk)} {S : List Blk} {U : List Us} {k : Nat} {y : Int} (h : inB y 0 7 = true) : pfF T S U k y = some (.int .i64 (plf T S U k y)) := by unfold pfF; rw [if_pos h]
def in_imP (T : List (List Blk)) (S : List Blk) (U : List Us) := (G0, res15, ([] : List (Nat × Ob)), [Item.ir ir15], start [ME T S, UL false U] [])
theorem ev_imP : ∀ (T : List (List Blk)) (S : List Blk) (U : List Us), ev G0 res15 [] (3000 : Nat) (Or.call [] (AB (memB T S)) [] (Or.nil.lit.lit.lit.lit.split (Or.nil.split (Or.call [] (AV.own (0 : Nat)) [((0 : Nat), Ob.row Mode.u false (3 : Nat) (S ++ T.flatten).length (SB (S ++ T.flatten)) [])] Or.nil)).lit.lit.lit)) [Item.ir ir15] (start [ME T S, UL false U] []) = VC.call (58 : Nat) [AV.ag [AV.p false (PV.sl false (1 : Nat) T.length (BB T)), AV.p false (PV.sl false (3 : Nat) S.length (SB S))]] [] (AB (memB T S)) [] (VC.split (!memB T S) (VC.done (St.mk [((0 : Nat), AV.ag [AV.p false (PV.sl false (1 : Nat) T.length (BB T)), AV.p false (PV.sl false (3 : Nat) S.length (SB S))]), ((1 : Nat), AV.p false (PV.sl false (4 : Nat) U.length (UB U))), ((2 : Nat), AV.adr (2 : Nat) (0 : Nat)), ((4 : Nat), AV.p true (PV.v (Value.slice none (0 : Nat) (0 : Nat)))), ((18 : Nat), AV.p true (PV.v (Value.bool true)))] [((2 : Nat), Ob.box [AV.p false (PV.sl false (1 : Nat) T.length (BB T)), AV.p false (PV.sl false (3 : Nat) S.length (SB S))])])) (VC.split (decide ((40 : Int) < (↑U.length : Int))) (VC.done (St.mk [((0 : Nat), AV.ag [AV.p false (PV.sl false (1 : Nat) T.length (BB T)), AV.p false (PV.sl false (3 : Nat) S.length (SB S))]), ((1 : Nat), AV.p false (PV.sl false (4 : Nat) U.length (UB U))), ((2 : Nat), AV.adr (2 : Nat) (0 : Nat)), ((4 : Nat), AV.p true (PV.v (Value.slice none (0 : Nat) (0 : Nat)))), ((18 : Nat), AV.p true (PV.v (Value.bool (decide ((40 : Int) < (↑U.length : Int))))))] [((2 : Nat), Ob.box [AV.p false (PV.sl false (1 : Nat) T.length (BB T)), AV.p false (PV.sl false (3 : Nat) S.length (SB S))])])) (VC.call (59 : Nat) [AV.ag [AV.p false (PV.sl false (1 : Nat) T.length (BB T)), AV.p false (PV.sl false (3 : Nat) S.length (SB S))]] [] (AV.own (0 : Nat)) [((0 : Nat), Ob.row Mode.u false (3 : Nat) (S ++ T.flatten).length (SB (S ++ T.flatten)) [])] (VC.loop ir15_L1 [Item.bend (0 : Nat), Item.ir ir15_T4] (St.mk [((0 : Nat), AV.ag [AV.p false (PV.sl false (1 : Nat) T.length (BB T)), AV.p false (PV.sl false (3 : Nat) S.length (SB S))]), ((1 : Nat), AV.p false (PV.sl false (4 : Nat) U.length (UB U))), ((2 : Nat), AV.adr (2 : Nat) (0 : Nat)), ((4 : Nat), AV.p true (PV.v (Value.slice none (0 : Nat) (0 : Nat)))), ((18 : Nat), AV.p true (PV.v (Value.bool (decide ((40 : Int) < (↑U.length : Int)))))), ((5 : Nat), AV.own (19 : Nat)), ((21 : Nat), AV.own (1021 : Nat)), ((22 : Nat), AV.p true (PV.v (Value.int IntKind.i64 (↑(S ++ T.flatten).length : Int)))), ((23 : Nat), AV.p true (PV.v (Value.int IntKind.i64 (0 : Int))))] [((2 : Nat), Ob.box [AV.p false (PV.sl false (1 : Nat) T.length (BB T)), AV.p false (PV.sl false (3 : Nat) S.length (SB S))]), ((19 : Nat), Ob.map (fun (x : Int) => none) (0 : Nat)), ((1021 : Nat), Ob.row Mode.u false (3 : Nat) (S ++ T.flatten).length (SB (S ++ T.flatten)) [])]))))) := by intros; kernel_rfl
def st_imP (T : List (List Blk)) (S : List Blk) (U : List Us) (A : List Blk) (k : Nat) : St := ⟨[(1, UL false U), (4, nilA), (5, .own 19), (21, .p true (.sl false 3 A.length (SB A))), (22, AI A.length), (23, AI k)], [(19, .map (lmF A k) k)]⟩
def r_imP (T : List (List Blk)) (S : List Blk) (U : List Us) (A : List Blk) (I : Nat → St → Prop) (k : Nat) := (G0, res15, ([] : List (Nat × Ob)), [Item.ir ir15_L1, .lend (I k), Item.bend 0, Item.ir ir15_T4], st_imP T S U A k)
theorem evr_imP : ∀ (T : List (List Blk)) (S : List Blk) (U : List Us) (A : List Blk) (I : Nat → St → Prop) (k : Nat), ev G0 res15 [] (3000 : Nat) (Or.nil.split Or.nil) [Item.ir ir15_L1, Item.lend (I k), Item.bend (0 : Nat), Item.ir ir15_T4] (st_imP T S U A k) = VC.split (decide ((↑k : Int) < (↑A.length : Int))) (VC.need ((0 : Int) ≤ (↑k : Int) ∧ (↑k : Int).toNat < A.length) (VC.lend (I k) (St.mk [((1 : Nat), AV.p false (PV.sl false (4 : Nat) U.length (UB U))), ((4 : Nat), AV.p true (PV.v (Value.slice none (0 : Nat) (0 : Nat)))), ((5 : Nat), AV.own (19 : Nat)), ((21 : Nat), AV.p true (PV.sl false (3 : Nat) A.length (SB A))), ((22 : Nat), AV.p true (PV.v (Value.int IntKind.i64 (↑A.length : Int)))), ((23 : Nat), AV.p true (PV.v (Value.int IntKind.i64 (IntKind.i64.wrap ((↑k : Int) + (1 : Int)))))), ((24 : Nat), AV.p true (PV.v (Value.bool (decide ((↑k : Int) < (↑A.length : Int)))))), ((7 : Nat), AV.adr (7 : Nat) (0 : Nat))] [((19 : Nat), Ob.map (fun (i : Int) => if i = (A.getD (↑k : Int).toNat b0).col (nat_lit 0) then some (Value.int IntKind.i64 ((A.getD (↑k : Int).toNat b0).col (nat_lit 2))) else lmF A k i) (match lmF A k ((A.getD (↑k : Int).toNat b0).col (nat_lit 0)) with | some val => k | none => k + (1 : Nat))), ((7 : Nat), Ob.box [AV.p true (PV.v (Value.int IntKind.i64 ((A.getD (↑k : Int).toNat b0).col (nat_lit 0)))), AV.p true (PV.v (Value.int IntKind.i64 ((A.getD (↑k : Int).toNat b0).col (nat_lit 1)))), AV.p true (PV.v (Value.int IntKind.i64 ((A.getD (↑k : Int).toNat b0).col (nat_lit 2))))])]))) (VC.loop ir15_L2 [Item.bend (2 : Nat), Item.ir ir15_T3] (St.mk [((1 : Nat), AV.p false (PV.sl false (4 : Nat) U.length (UB U))), ((4 : Nat), AV.p true (PV.v (Value.slice none (0 : Nat) (0 : Nat)))), ((5 : Nat), AV.own (19 : Nat)), ((21 : Nat), AV.p true (PV.sl false (3 : Nat) A.length (SB A))), ((22 : Nat), AV.p true (PV.v (Value.int IntKind.i64 (↑A.length : Int)))), ((23 : Nat), AV.p true (PV.v (Value.int IntKind.i64 (↑k : Int)))), ((24 : Nat), AV.p true (PV.v (Value.bool (decide ((↑k : Int) < (↑A.length : Int)))))), ((8 : Nat), AV.p true (PV.v (Value.slice none (0 : Nat) (0 : Nat)))), ((33 : Nat), AV.p false (PV.sl false (4 : Nat) U.length (UB U))), ((34 : Nat), AV.p true (PV.v (Value.int IntKind.i64 (↑U.length : Int)))), ((35 : Nat), AV.p true (PV.v (Value.int IntKind.i64 (0 : Int))))] [((19 : Nat), Ob.map (lmF A k) k)])) := by intros; kernel_rfl
def st_imP2 (T : List (List Blk)) (S : List Blk) (U : List Us) (k : Nat) : St := ⟨[(4, nilA), (5, .own 19), (8, .own 8), (33, UL false U), (34, AI U.length), (35, AI k)], [(19, .map (pfF T S U k) 8), (8, .row .u false 1 (3 * k) (fun i _ => PI (pF T S U i)) [])]⟩
def r_imP2 (T : List (List Blk)) (S : List Blk) (U : List Us) (I : Nat → St → Prop) (k : Nat) := (G0, res15, ([] : List (Nat × Ob)), [Item.ir ir15_L2, .lend (I k), Item.bend 2, Item.ir ir15_T3], st_imP2 T S U k)
theorem evr_imP2 : ∀ (T : List (List Blk)) (S : List Blk) (U : List Us) (I : Nat → St → Prop) (k : Nat), ev G0 res15 [] (3000 : Nat) ((Or.call [] (AB (inB (U.getD (↑k : Int).toNat u0).a (0 : Int) (7 : Int))) [] (Or.nil.lit.lit.lit.lit.lit.split (Or.call [] (AB (inB (U.getD (↑k : Int).toNat u0).l (0 : Int) (3 : Int))) [] (Or.nil.split (Or.call [] (AV.own (0 : Nat)) [((0 : Nat), Ob.row Mode.u true (1 : Nat) (3 : Nat) (PA (intV ((pfF T S U k (U.getD (↑k : Int).toNat u0).a).getD (Value.int IntKind.i64 (0 : Int))))) [])] Or.nil)).lit.lit).lit.lit)).split Or.nil) [Item.ir ir15_L2, Item.lend (I k), Item.bend (2 : Nat), Item.ir ir15_T3] (st_imP2 T S U k) = VC.split (decide ((↑k : Int) < (↑U.length : Int))) (VC.need ((0 : Int) ≤ (↑k : Int) ∧ (↑k : Int).toNat < U.length) (VC.call (60 : Nat) [AV.p true (PV.v (Value.int IntKind.i64 (U.getD (↑k : Int).toNat u0).a))] [] (AB (inB (U.getD (↑k : Int).toNat u0).a (0 : Int) (7 : Int))) [] (VC.split (!inB (U.getD (↑k : Int).toNat u0).a (0 : Int) (7 : Int)) (VC.done (St.mk [((4 : Nat), AV.p true (PV.v (Value.slice none (0 : Nat) (0 : Nat)))), ((5 : Nat), AV.own (19 : Nat)), ((8 : Nat), AV.own (8 : Nat)), ((33 : Nat), AV.p false (PV.sl false (4 : Nat) U.length (UB U))), ((34 : Nat), AV.p true (PV.v (Value.int IntKind.i64 (↑U.length : Int)))), ((35 : Nat), AV.p true (PV.v (Value.int IntKind.i64 (↑k : Int)))), ((36 : Nat), AV.p true (PV.v (Value.bool (decide ((↑k : Int) < (↑U.length : Int)))))), ((10 : Nat), AV.adr (10 : Nat) (0 : Nat)), ((48 : Nat), AV.p true (PV.v (Value.bool true)))] [((19 : Nat), Ob.map (pfF T S U k) (8 : Nat)), ((8 : Nat), Ob.row Mode.u false (1 : Nat) ((3 : Nat) * k) (fun (i x : Nat) => PI (pF T S U i)) []), ((10 : Nat), Ob.box [AV.p true (PV.v (Value.int IntKind.i64 (U.getD (↑k : Int).toNat u0).a)), AV.p true (PV.v (Value.bool (U.getD (↑k : Int).toNat u0).w)), AV.p true (PV.v (Value.int IntKind.i64 (U.getD (↑k : Int).toNat u0).v)), AV.p true (PV.v (Value.int IntKind.i64 (U.getD (↑k : Int).toNat u0).l))])])) (VC.call (61 : Nat) [AV.p true (PV.v (Value.int IntKind.i64 (U.getD (↑k : Int).toNat u0).l))] [] (AB (inB (U.getD (↑k : Int).toNat u0).l (0 : Int) (3 : Int))) [] (VC.split (!inB (U.getD (↑k : Int).toNat u0).l (0 : Int) (3 : Int)) (VC.done (St.mk [((4 : Nat), AV.p true (PV.v (Value.slice none (0 : Nat) (0 : Nat)))), ((5 : Nat), AV.own (19 : Nat)), ((8 : Nat), AV.own (8 : Nat)), ((33 : Nat), AV.p false (PV.sl false (4 : Nat) U.length (UB U))), ((34 : Nat), AV.p true (PV.v (Value.int IntKind.i64 (↑U.length : Int)))), ((35 : Nat), AV.p true (PV.v (Value.int IntKind.i64 (↑k : Int)))), ((36 : Nat), AV.p true (PV.v (Value.bool (decide ((↑k : Int) < (↑U.length : Int)))))), ((10 : Nat), AV.adr (10 : Nat) (0 : Nat)), ((48 : Nat), AV.p true (PV.v (Value.bool !inB (U.getD (↑k : Int).toNat u0).l (0 : Int) (3 : Int))))] [((19 : Nat), Ob.map (pfF T S U k) (8 : Nat)), ((8 : Nat), Ob.row Mode.u false (1 : Nat) ((3 : Nat) * k) (fun (i x : Nat) => PI (pF T S U i)) []), ((10 : Nat), Ob.box [AV.p true (PV.v (Value.int IntKind.i64 (U.getD (↑k : Int).toNat u0).a)), AV.p true (PV.v (Value.bool (U.getD (↑k : Int).toNat u0).w)), AV.p true (PV.v (Value.int IntKind.i64 (U.getD (↑k : Int).toNat u0).v)), AV.p true (PV.v (Value.int IntKind.i64 (U.getD (↑k : Int).toNat u0).l))])])) (VC.need ((pfF T S U k (U.getD (↑k : Int).toNat u0).a).getD (Value.int IntKind.i64 (0 : Int)) = Value.int IntKind.i64 (intV ((pfF T S U k (U.getD (↑k : Int).toNat u0).a).getD (Value.int IntKind.i64 (0 : Int))))) (VC.call (62 : Nat) [AV.p true (PV.v (Value.int IntKind.i64 (intV ((pfF T S U k (U.getD (↑k : Int).toNat u0).a).getD (Value.int IntKind.i64 (0 : Int))))))] [] (AV.own (0 : Nat)) [((0 : Nat), Ob.row Mode.u true (1 : Nat) (3 : Nat) (PA (intV ((pfF T S U k (U.getD (↑k : Int).toNat u0).a).getD (Value.int IntKind.i64 (0 : Int))))) [])] (VC.need ((((3 : Nat) * k + (3 : Nat)) * (8 : Nat) ≤ (140737488355328 : Nat) ∧ (↑((3 : Nat) * k + (3 : Nat)) : Int) ≤ (9223372036854775807 : Int)) ∧ allV (1 : Nat) (3 : Nat) (PA (intV ((pfF T S U k (U.getD (↑k : Int).toNat u0).a).getD (Value.int IntKind.i64 (0 : Int)))))) (VC.lend (I k) (St.mk [((4 : Nat), AV.p true (PV.v (Value.slice none (0 : Nat) (0 : Nat)))), ((5 : Nat), AV.own (19 : Nat)), ((8 : Nat), AV.own (55 : Nat)), ((33 : Nat), AV.p false (PV.sl false (4 : Nat) U.length (UB U))), ((34 : Nat), AV.p true (PV.v (Value.int IntKind.i64 (↑U.length : Int)))), ((35 : Nat), AV.p true (PV.v (Value.int IntKind.i64 (IntKind.i64.wrap ((↑k : Int) + (1 : Int)))))), ((36 : Nat), AV.p true (PV.v (Value.bool (decide ((↑k : Int) < (↑U.length : Int)))))), ((10 : Nat), AV.adr (10 : Nat) (0 : Nat)), ((48 : Nat), AV.p true (PV.v (Value.bool !inB (U.getD (↑k : Int).toNat u0).l (0 : Int) (3 : Int))))] [((19 : Nat), Ob.map (fun (i : Int) => if i = (U.getD (↑k : Int).toNat u0).a then some (Value.int IntKind.i64 (U.getD (↑k : Int).toNat u0).l) else pfF T S U k i) (match pfF T S U k (U.getD (↑k : Int).toNat u0).a with | some val => (8 : Nat) | none => (8 : Nat) + (1 : Nat))), ((10 : Nat), Ob.box [AV.p true (PV.v (Value.int IntKind.i64 (U.getD (↑k : Int).toNat u0).a)), AV.p true (PV.v (Value.bool (U.getD (↑k : Int).toNat u0).w)), AV.p true (PV.v (Value.int IntKind.i64 (U.getD (↑k : Int).toNat u0).v)), AV.p true (PV.v (Value.int IntKind.i64 (U.getD (↑k : Int).toNat u0).l))]), ((55 : Nat), Ob.row Mode.u false (1 : Nat) ((3 : Nat) * k + (3 : Nat)) (fun (a b : Nat) => if a < (3 : Nat) * k then PI (pF T S U a) else PA (intV ((pfF T S U k (U.getD (↑k : Int).toNat u0).a).getD (Value.int IntKind.i64 (0 : Int)))) (a - (3 : Nat) * k) b) [])])))))))))) (VC.done (St.mk [((4 : Nat), AV.own (8 : Nat)), ((5 : Nat), AV.own (19 : Nat)), ((8 : Nat), AV.own (8 : Nat)), ((33 : Nat), AV.p false (PV.sl false (4 : Nat) U.length (UB U))), ((34 : Nat), AV.p true (PV.v (Value.int IntKind.i64 (↑U.length : Int)))), ((35 : Nat), AV.p true (PV.v (Value.int IntKind.i64 (↑k : Int)))), ((36 : Nat), AV.p true (PV.v (Value.bool (decide ((↑k : Int) < (↑U.length : Int))))))] [((19 : Nat), Ob.map (pfF T S U k) (8 : Nat)), ((8 : Nat), Ob.row Mode.u false (1 : Nat) ((3 : Nat) * k) (fun (i x : Nat) => PI (pF T S U i)) [])])) := by intros; kernel_rfl
def in_spP (T : List (List Blk)) (S : List Blk) (U : List Us) := (G0, res17, ([] : List (Nat × Ob)), [Item.ir ir17], start [ME T S, UL false U] [])
theorem ev_spP : ∀ (T : List (List Blk)) (S : List Blk) (U : List Us), ev G0 res17 [] (3000 : Nat) (Or.call [] (AB (memB T S)) [] (Or.nil.lit.lit.lit.lit.split (Or.nil.split Or.nil).lit.lit.lit)) [Item.ir ir17] (start [ME T S, UL false U] []) = VC.call (63 : Nat) [AV.ag [AV.p false (PV.sl false (1 : Nat) T.length (BB T)), AV.p false (PV.sl false (3 : Nat) S.length (SB S))]] [] (AB (memB T S)) [] (VC.split (!memB T S) (VC.done (St.mk [((0 : Nat), AV.ag [AV.p false (PV.sl false (1 : Nat) T.length (BB T)), AV.p false (PV.sl false (3 : Nat) S.length (SB S))]), ((1 : Nat), AV.p false (PV.sl false (4 : Nat) U.length (UB U))), ((2 : Nat), AV.adr (2 : Nat) (0 : Nat)), ((4 : Nat), AV.own (9 : Nat)), ((5 : Nat), AV.own (9 : Nat)), ((17 : Nat), AV.p true (PV.v (Value.bool true)))] [((2 : Nat), Ob.box [AV.p false (PV.sl false (1 : Nat) T.length (BB T)), AV.p false (PV.sl false (3 : Nat) S.length (SB S))]), ((9 : Nat), Ob.row Mode.u true (1 : Nat) (0 : Nat) (setG [] fun (x j : Nat) => PV.v ([Value.int IntKind.i64 (0 : Int)].getD j undef)) [])])) (VC.split (decide ((40 : Int) < (↑U.length : Int))) (VC.done (St.mk [((0 : Nat), AV.ag [AV.p false (PV.sl false (1 : Nat) T.length (BB T)), AV.p false (PV.sl false (3 : Nat) S.length (SB S))]), ((1 : Nat), AV.p false (PV.sl false (4 : Nat) U.length (UB U))), ((2 : Nat), AV.adr (2 : Nat) (0 : Nat)), ((4 : Nat), AV.own (9 : Nat)), ((5 : Nat), AV.own (9 : Nat)), ((17 : Nat), AV.p true (PV.v (Value.bool (decide ((40 : Int) < (↑U.length : Int))))))] [((2 : Nat), Ob.box [AV.p false (PV.sl false (1 : Nat) T.length (BB T)), AV.p false (PV.sl false (3 : Nat) S.length (SB S))]), ((9 : Nat), Ob.row Mode.u true (1 : Nat) (0 : Nat) (setG [] fun (x j : Nat) => PV.v ([Value.int IntKind.i64 (0 : Int)].getD j undef)) [])])) (VC.loop ir17_L4 [Item.bend (0 : Nat), Item.ir ir17_T5] (St.mk [((0 : Nat), AV.ag [AV.p false (PV.sl false (1 : Nat) T.length (BB T)), AV.p false (PV.sl false (3 : Nat) S.length (SB S))]), ((1 : Nat), AV.p false (PV.sl false (4 : Nat) U.length (UB U))), ((2 : Nat), AV.adr (2 : Nat) (0 : Nat)), ((4 : Nat), AV.p true (PV.v (Value.slice none (0 : Nat) (0 : Nat)))), ((5 : Nat), AV.own (9 : Nat)), ((17 : Nat), AV.p true (PV.v (Value.bool (decide ((40 : Int) < (↑U.length : Int)))))), ((6 : Nat), AV.p true (PV.v (Value.int IntKind.i64 (0 : Int))))] [((2 : Nat), Ob.box [AV.p false (PV.sl false (1 : Nat) T.length (BB T)), AV.p false (PV.sl false (3 : Nat) S.length (SB S))]), ((9 : Nat), Ob.row Mode.u true (1 : Nat) (0 : Nat) (setG [] fun (x j : Nat) => PV.v ([Value.int IntKind.i64 (0 : Int)].getD j undef)) [])])))) := by intros; kernel_rfl
def st_spP (T : List (List Blk)) (S : List Blk) (U : List Us) (k : Nat) : St := ⟨[(1, UL false U), (2, .adr 2 0), (4, nilA), (5, .own 9), (6, AI k)], [(2, MBX T S), (9, .row .u false 1 (3 * k) (fun i _ => PI (pF T S U i)) [])]⟩
def r_spP (T : List (List Blk)) (S : List Blk) (U : List Us) (I : Nat → St → Prop) (k : Nat) := (G0, res17, ([] : List (Nat × Ob)), [Item.ir ir17_L4, .lend (I k), Item.bend 0, Item.ir ir17_T5], st_spP T S U k)
theorem evr_spP : ∀ (T : List (List Blk)) (S : List Blk) (U : List Us) (I : Nat → St → Prop) (k : Nat), ev G0 res17 [] (3000 : Nat) ((Or.call [] (AB (inB (U.getD (↑k : Int).toNat u0).a (0 : Int) (7 : Int))) [] (Or.nil.lit.lit.lit.lit.lit.lit.lit.lit.split (Or.call [] (AB (inB (U.getD (↑k : Int).toNat u0).l (0 : Int) (3 : Int))) [] (Or.nil.split (Or.call [] (AI (leafM T S (U.getD (↑k : Int).toNat u0).a)) [] Or.nil)).lit.lit).lit.lit.lit.lit.lit)).split Or.nil) [Item.ir ir17_L4, Item.lend (I k), Item.bend (0 : Nat), Item.ir ir17_T5] (st_spP T S U k) = VC.split (decide ((↑k : Int) < (↑U.length : Int))) (VC.need ((0 : Int) ≤ (↑k : Int) ∧ (↑k : Int).toNat < U.length) (VC.call (64 : Nat) [AV.p true (PV.v (Value.int IntKind.i64 (U.getD (↑k : Int).toNat u0).a)), AV.p true (PV.v (Value.int IntKind.i64 (0 : Int))), AV.p true (PV.v (Value.int IntKind.i64 (7 : Int)))] [] (AB (inB (U.getD (↑k : Int).toNat u0).a (0 : Int) (7 : Int))) [] (VC.split (!inB (U.getD (↑k : Int).toNat u0).a (0 : Int) (7 : Int)) (VC.done (St.mk [((1 : Nat), AV.p false (PV.sl false (4 : Nat) U.length (UB U))), ((2 : Nat), AV.adr (2 : Nat) (0 : Nat)), ((4 : Nat), AV.own (41 : Nat)), ((5 : Nat), AV.own (9 : Nat)), ((6 : Nat), AV.p true (PV.v (Value.int IntKind.i64 (↑k : Int)))), ((22 : Nat), AV.p true (PV.v (Value.bool (decide ((↑k : Int) < (↑U.length : Int)))))), ((40 : Nat), AV.p true (PV.v (Value.bool true)))] [((2 : Nat), Ob.box [AV.p false (PV.sl false (1 : Nat) T.length (BB T)), AV.p false (PV.sl false (3 : Nat) S.length (SB S))]), ((9 : Nat), Ob.row Mode.u false (1 : Nat) ((3 : Nat) * k) (fun (i x : Nat) => PI (pF T S U i)) []), ((41 : Nat), Ob.row Mode.u true (1 : Nat) (0 : Nat) (setG [] fun (x j : Nat) => PV.v ([Value.int IntKind.i64 (0 : Int)].getD j undef)) [])])) (VC.need ((0 : Int) ≤ (↑k : Int) ∧ (↑k : Int).toNat < U.length) (VC.call (64 : Nat) [AV.p true (PV.v (Value.int IntKind.i64 (U.getD (↑k : Int).toNat u0).l)), AV.p true (PV.v (Value.int IntKind.i64 (0 : Int))), AV.p true (PV.v (Value.int IntKind.i64 (3 : Int)))] [] (AB (inB (U.getD (↑k : Int).toNat u0).l (0 : Int) (3 : Int))) [] (VC.split (!inB (U.getD (↑k : Int).toNat u0).l (0 : Int) (3 : Int)) (VC.done (St.mk [((1 : Nat), AV.p false (PV.sl false (4 : Nat) U.length (UB U))), ((2 : Nat), AV.adr (2 : Nat) (0 : Nat)), ((4 : Nat), AV.own (41 : Nat)), ((5 : Nat), AV.own (9 : Nat)), ((6 : Nat), AV.p true (PV.v (Value.int IntKind.i64 (↑k : Int)))), ((22 : Nat), AV.p true (PV.v (Value.bool (decide ((↑k : Int) < (↑U.length : Int)))))), ((40 : Nat), AV.p true (PV.v (Value.bool !inB (U.getD (↑k : Int).toNat u0).l (0 : Int) (3 : Int))))] [((2 : Nat), Ob.box [AV.p false (PV.sl false (1 : Nat) T.length (BB T)), AV.p false (PV.sl false (3 : Nat) S.length (SB S))]), ((9 : Nat), Ob.row Mode.u false (1 : Nat) ((3 : Nat) * k) (fun (i x : Nat) => PI (pF T S U i)) []), ((41 : Nat), Ob.row Mode.u true (1 : Nat) (0 : Nat) (setG [] fun (x j : Nat) => PV.v ([Value.int IntKind.i64 (0 : Int)].getD j undef)) [])])) (VC.need ((0 : Int) ≤ (↑k : Int) ∧ (↑k : Int).toNat < U.length) (VC.call (65 : Nat) [AV.ag [AV.p false (PV.sl false (1 : Nat) T.length (BB T)), AV.p false (PV.sl false (3 : Nat) S.length (SB S))], AV.p true (PV.v (Value.int IntKind.i64 (U.getD (↑k : Int).toNat u0).a))] [] (AI (leafM T S (U.getD (↑k : Int).toNat u0).a)) [] (VC.loop ir17_L1 [Item.bend (2 : Nat), Item.ir ir17_T2, Item.bend (1 : Nat), Item.ir ir17_T3, Item.lend (I k), Item.bend (0 : Nat), Item.ir ir17_T5] (St.mk [((1 : Nat), AV.p false (PV.sl false (4 : Nat) U.length (UB U))), ((2 : Nat), AV.adr (2 : Nat) (0 : Nat)), ((4 : Nat), AV.p true (PV.v (Value.slice none (0 : Nat) (0 : Nat)))), ((5 : Nat), AV.own (9 : Nat)), ((6 : Nat), AV.p true (PV.v (Value.int IntKind.i64 (↑k : Int)))), ((22 : Nat), AV.p true (PV.v (Value.bool (decide ((↑k : Int) < (↑U.length : Int)))))), ((40 : Nat), AV.p true (PV.v (Value.bool !inB (U.getD (↑k : Int).toNat u0).l (0 : Int) (3 : Int)))), ((7 : Nat), AV.p true (PV.v (Value.int IntKind.i64 (leafM T S (U.getD (↑k : Int).toNat u0).a)))), ((8 : Nat), AV.p true (PV.v (Value.int IntKind.i64 (0 : Int))))] [((2 : Nat), Ob.box [AV.p false (PV.sl false (1 : Nat) T.length (BB T)), AV.p false (PV.sl false (3 : Nat) S.length (SB S))]), ((9 : Nat), Ob.row Mode.u false (1 : Nat) ((3 : Nat) * k) (fun (i x : Nat) => PI (pF T S U i)) [])])))))))))) (VC.done (St.mk [((1 : Nat), AV.p false (PV.sl false (4 : Nat) U.length (UB U))), ((2 : Nat), AV.adr (2 : Nat) (0 : Nat)), ((4 : Nat), AV.own (9 : Nat)), ((5 : Nat), AV.own (9 : Nat)), ((6 : Nat), AV.p true (PV.v (Value.int IntKind.i64 (↑k : Int)))), ((22 : Nat), AV.p true (PV.v (Value.bool (decide ((↑k : Int) < (↑U.length : Int))))))] [((2 : Nat), Ob.box [AV.p false (PV.sl false (1 : Nat) T.length (BB T)), AV.p false (PV.sl false (3 : Nat) S.length (SB S))]), ((9 : Nat), Ob.row Mode.u false (1 : Nat) ((3 : Nat) * k) (fun (i x : Nat) => PI (pF T S U i)) [])])) := by intros; kernel_rfl
def st_spP2 (T : List (List Blk)) (S : List Blk) (U : List Us) (k : Nat) (y : Int) (j : Nat) : St := ⟨[(1, UL false U), (2, .adr 2 0), (4, nilA), (5, .own 9), (6, AI k), (7, AI (plf T S U j y)), (8, AI j)], [(2, MBX T S), (9, .row .u false 1 (3 * k) (fun i _ => PI (pF T S U i)) [])]⟩
def r_spP2 (T : List (List Blk)) (S : List Blk) (U : List Us) (I : Nat → St → Prop) (k : Nat) (y : Int) (J : Nat → St → Prop) (j : Nat) := (G0, res17, ([] : List (Nat × Ob)), [Item.ir ir17_L1, .lend (J j), Item.bend 2, Item.ir ir17_T2, Item.bend 1, Item.ir ir17_T3, .lend (I k), Item.bend 0, Item.ir ir17_T5], st_spP2 T S U k y j)
theorem evr_spP2 : ∀ (T : List (List Blk)) (S : List Blk) (U : List Us) (I : Nat → St → Prop) (k : Nat) (y : Int) (J : Nat → St → Prop) (j : Nat), ev G0 res17 [] (3000 : Nat) ((Or.nil.split Or.nil).split (Or.call [] (AV.own (0 : Nat)) [((0 : Nat), Ob.row Mode.u true (1 : Nat) (3 : Nat) (PA (plf T S U j y)) [])] Or.nil)) [Item.ir ir17_L1, Item.lend (J j), Item.bend (2 : Nat), Item.ir ir17_T2, Item.bend (1 : Nat), Item.ir ir17_T3, Item.lend (I k), Item.bend (0 : Nat), Item.ir ir17_T5] (st_spP2 T S U k y j) = VC.split (decide ((↑j : Int) < (↑k : Int))) (VC.need ((0 : Int) ≤ (↑j : Int) ∧ (↑j : Int).toNat < U.length) (VC.need ((0 : Int) ≤ (↑k : Int) ∧ (↑k : Int).toNat < U.length) (VC.split ((U.getD (↑j : Int).toNat u0).a == (U.getD (↑k : Int).toNat u0).a) (VC.need ((0 : Int) ≤ (↑j : Int) ∧ (↑j : Int).toNat < U.length) (VC.lend (J j) (St.mk [((1 : Nat), AV.p false (PV.sl false (4 : Nat) U.length (UB U))), ((2 : Nat), AV.adr (2 : Nat) (0 : Nat)), ((4 : Nat), AV.p true (PV.v (Value.slice none (0 : Nat) (0 : Nat)))), ((5 : Nat), AV.own (9 : Nat)), ((6 : Nat), AV.p true (PV.v (Value.int IntKind.i64 (↑k : Int)))), ((7 : Nat), AV.p true (PV.v (Value.int IntKind.i64 (U.getD (↑j : Int).toNat u0).l))), ((8 : Nat), AV.p true (PV.v (Value.int IntKind.i64 (IntKind.i64.wrap ((↑j : Int) + (1 : Int)))))), ((51 : Nat), AV.p true (PV.v (Value.bool (decide ((↑j : Int) < (↑k : Int)))))), ((64 : Nat), AV.p true (PV.v (Value.bool ((U.getD (↑j : Int).toNat u0).a == (U.getD (↑k : Int).toNat u0).a))))] [((2 : Nat), Ob.box [AV.p false (PV.sl false (1 : Nat) T.length (BB T)), AV.p false (PV.sl false (3 : Nat) S.length (SB S))]), ((9 : Nat), Ob.row Mode.u false (1 : Nat) ((3 : Nat) * k) (fun (i x : Nat) => PI (pF T S U i)) [])]))) (VC.lend (J j) (St.mk [((1 : Nat), AV.p false (PV.sl false (4 : Nat) U.length (UB U))), ((2 : Nat), AV.adr (2 : Nat) (0 : Nat)), ((4 : Nat), AV.p true (PV.v (Value.slice none (0 : Nat) (0 : Nat)))), ((5 : Nat), AV.own (9 : Nat)), ((6 : Nat), AV.p true (PV.v (Value.int IntKind.i64 (↑k : Int)))), ((7 : Nat), AV.p true (PV.v (Value.int IntKind.i64 (plf T S U j y)))), ((8 : Nat), AV.p true (PV.v (Value.int IntKind.i64 (IntKind.i64.wrap ((↑j : Int) + (1 : Int)))))), ((51 : Nat), AV.p true (PV.v (Value.bool (decide ((↑j : Int) < (↑k : Int)))))), ((64 : Nat), AV.p true (PV.v (Value.bool ((U.getD (↑j : Int).toNat u0).a == (U.getD (↑k : Int).toNat u0).a))))] [((2 : Nat), Ob.box [AV.p false (PV.sl false (1 : Nat) T.length (BB T)), AV.p false (PV.sl false (3 : Nat) S.length (SB S))]), ((9 : Nat), Ob.row Mode.u false (1 : Nat) ((3 : Nat) * k) (fun (i x : Nat) => PI (pF T S U i)) [])]))))) (VC.call (66 : Nat) [AV.p true (PV.v (Value.int IntKind.i64 (plf T S U j y)))] [] (AV.own (0 : Nat)) [((0 : Nat), Ob.row Mode.u true (1 : Nat) (3 : Nat) (PA (plf T S U j y)) [])] (VC.need ((((3 : Nat) * k + (3 : Nat)) * (8 : Nat) ≤ (140737488355328 : Nat) ∧ (↑((3 : Nat) * k + (3 : Nat)) : Int) ≤ (9223372036854775807 : Int)) ∧ allV (1 : Nat) (3 : Nat) (PA (plf T S U j y))) (VC.lend (I k) (St.mk [((1 : Nat), AV.p false (PV.sl false (4 : Nat) U.length (UB U))), ((2 : Nat), AV.adr (2 : Nat) (0 : Nat)), ((4 : Nat), AV.p true (PV.v (Value.slice none (0 : Nat) (0 : Nat)))), ((5 : Nat), AV.own (73 : Nat)), ((6 : Nat), AV.p true (PV.v (Value.int IntKind.i64 (IntKind.i64.wrap ((↑k : Int) + (1 : Int)))))), ((7 : Nat), AV.p true (PV.v (Value.int IntKind.i64 (plf T S U j y)))), ((8 : Nat), AV.p true (PV.v (Value.int IntKind.i64 (↑j : Int)))), ((51 : Nat), AV.p true (PV.v (Value.bool (decide ((↑j : Int) < (↑k : Int))))))] [((2 : Nat), Ob.box [AV.p false (PV.sl false (1 : Nat) T.length (BB T)), AV.p false (PV.sl false (3 : Nat) S.length (SB S))]), ((73 : Nat), Ob.row Mode.u false (1 : Nat) ((3 : Nat) * k + (3 : Nat)) (fun (a b : Nat) => if a < (3 : Nat) * k then PI (pF T S U a) else PA (plf T S U j y) (a - (3 : Nat) * k) b) [])])))) := by intros; kernel_rfl
theorem p_no {T : List (List Blk)} {S : List Blk} {U : List Us} (h : pAll T S U = false) : pN T S U = 0 := by simp [pN, h]
theorem pF_at (T : List (List Blk)) (S : List Blk) (U : List Us) {k i : Nat} (h1 : 3 * k ≤ i) (h2 : i < 3 * k + 3) : pF T S U i = litI (pathL (plf T S U k (U.getD k u0).a)) (i - 3 * k) := by
  unfold pF
  rw [show i / 3 = k by omega, show i % 3 = i - 3 * k by omega]
theorem c_imP (T : List (List Blk)) (S : List Blk) (U : List Us) (hT : T.length ≤ 1048576) (hS : S.length + T.flatten.length ≤ 1048576) : PObj Tryd.prog G0 15 [ME T S, UL false U] [] (.own 0) (pH T S U) := by
  refine PObj.by chk15 rfl (ev_imP T S U) ?_
  simp only [VC.holds_split, VC.holds_need, VC.holds_doneP, VC.holds_done, VC.holds_either, VC.holds_call, VC.holds_callE, VC.holds_lend, VC.holds_stop, VC.holds_fail, decide_eq_true_eq, decide_eq_false_iff_not]
  refine ⟨c_mV T S hT hS, fun h => ?_, fun h1 => ⟨fun h => ?_, fun h2 => ⟨c_all T S hT hS, ?_⟩⟩⟩
  · have e := p_no (T := T) (S := S) (U := U) (by simp only [pAll, not_t h, Bool.false_and])
    simp only [pH, e]
    refine ResOk.mk [] [] [0] _ _ ?_ ⟨rfl, rfl⟩
    simp [doneC, resOf, resAV, tup, pinR, PV.Le_self, hbs, St.lowers, St.lower, stLe, leEnv, leObs, obLe, injB, pinC, AV.leC, AV.leCs, PV.leC, PV.Le_v, St.get, St.obj, look, rho, isNew, keptC, renH, Mode.ok, Mode.isZ, PV.isVal, PV.isNilSl, List.all_nil, List.all_cons, List.any_nil, List.any_cons, List.map_nil, List.map_cons, res15]
  · have : ¬ U.length ≤ 40 := by omega
    have e := p_no (T := T) (S := S) (U := U) (by simp only [pAll, this, decide_false, Bool.false_and, Bool.and_false])
    simp only [pH, e]
    refine ResOk.mk [] [] [0] _ _ ?_ ⟨rfl, rfl⟩
    simp [doneC, resOf, resAV, tup, pinR, PV.Le_self, hbs, St.lowers, St.lower, stLe, leEnv, leObs, obLe, injB, pinC, AV.leC, AV.leCs, PV.leC, PV.Le_v, St.get, St.obj, look, rho, isNew, keptC, renH, Mode.ok, Mode.isZ, PV.isVal, PV.isNilSl, List.all_nil, List.all_cons, List.any_nil, List.any_cons, List.map_nil, List.map_cons, res15]
  · have hv := not_f h1
    have m := mem_ok hv
    have hU : U.length ≤ 40 := by omega
    have hlm := lm_all (T := T) (S := S) U hv
    have hn := m.hn
    have hvb := m.hv
    generalize S ++ T.flatten = A at *
    refine loop_by (st_imP T S U A) (fun k => k ≤ A.length) (fun k => A.length - k) 0 [(1020, .f)] [] [] (Nat.zero_le _) ?_ (evr_imP T S U A) fun k hk => ?_
    · simp [st_imP, hbs, St.lowers, St.lower, stLe, leEnv, leObs, obLe, injB, pinC, AV.leC, AV.leCs, PV.leC, PV.Le_v, St.get, St.obj, look, rho, isNew, keptC, renH, Mode.ok, Mode.isZ, PV.isVal, PV.isNilSl, List.all_nil, List.all_cons, List.any_nil, List.any_cons, List.map_nil, List.map_cons, PV.Le_self, Mode.low, St.setOb, ins, lmF]
    · have ek : IntKind.i64.wrap ((k : Int) + 1) = ((k + 1 : Nat) : Int) := wrap_in (by omega) (by omega)
      simp only [VC.holds_split, VC.holds_need, VC.holds_doneP, VC.holds_done, VC.holds_either, VC.holds_call, VC.holds_callE, VC.holds_lend, VC.holds_stop, VC.holds_fail, decide_eq_true_eq, decide_eq_false_iff_not, Int.toNat_natCast]
      refine ⟨fun h0 => ⟨⟨by omega, by omega⟩, Again.mk (k + 1) [] [] [] (by omega) (by omega) ?_⟩, fun h0 => ?_⟩
      · have hs := allB_iff.1 hvb k (by omega)
        simp only [stepB, Bool.and_eq_true, Bool.not_eq_true'] at hs
        have hno := lm_none hs.2
        have c0 : (A.getD k b0).col 0 = (A.getD k b0).a := rfl
        have c2 : (A.getD k b0).col 2 = (A.getD k b0).l := rfl
        simp only [col0, col2, c0, c2, hno]
        generalize hb : A.getD k b0 = b at *
        have hu : ∀ y, lmF A (k + 1) y = if y = b.a then some (.int .i64 b.l) else lmF A k y := fun y => by simp only [lmF, hb]
        simp only [st_imP]
        simp [hbs, St.lowers, St.lower, stLe, leEnv, leObs, obLe, injB, pinC, AV.leC, AV.leCs, PV.leC, PV.Le_v, St.get, St.obj, look, rho, isNew, keptC, renH, Mode.ok, Mode.isZ, PV.isVal, PV.isNilSl, List.all_nil, List.all_cons, List.any_nil, List.any_cons, List.map_nil, List.map_cons, PV.Le_self, ek]
        exact fun y => (hu y).symm
      · have hk : k = A.length := by omega
        subst hk
        refine loop_by (st_imP2 T S U) (fun k => k ≤ U.length ∧ ∀ j, j < k → pSt U j = true) (fun k => U.length - k) 0 [] [] [8] (by simp) ?_ (evr_imP2 T S U) fun k hk => ?_
        · simp only [st_imP2]
          rw [hn] at hlm
          simp [hbs, St.lowers, St.lower, stLe, leEnv, leObs, obLe, injB, pinC, AV.leC, AV.leCs, PV.leC, PV.Le_v, St.get, St.obj, look, rho, isNew, keptC, renH, Mode.ok, Mode.isZ, PV.isVal, PV.isNilSl, List.all_nil, List.all_cons, List.any_nil, List.any_cons, List.map_nil, List.map_cons, PV.Le_self, hn]
          exact hlm
        · obtain ⟨hk, hall⟩ := hk
          have ek : IntKind.i64.wrap ((k : Int) + 1) = ((k + 1 : Nat) : Int) := wrap_in (by omega) (by omega)
          simp only [VC.holds_split, VC.holds_need, VC.holds_doneP, VC.holds_done, VC.holds_either, VC.holds_call, VC.holds_callE, VC.holds_lend, VC.holds_stop, VC.holds_fail, decide_eq_true_eq, decide_eq_false_iff_not, Int.toNat_natCast]
          have bad : k < U.length → pSt U k = false → pN T S U = 0 := fun h1 h2 => p_no (by simp only [pAll, allB_no h1 h2, Bool.and_false])
          refine ⟨fun h0 => ⟨⟨by omega, by omega⟩, c_isA _, fun h3 => ?_, fun h3 => ⟨c_isL _, fun h4 => ?_, fun h4 => ?_⟩⟩, fun h0 => ?_⟩
          · have e := bad (by omega) (by simp only [pSt, not_t h3, Bool.false_and])
            simp only [pH, e]
            refine ResOk.mk [] [] [0] _ _ ?_ ⟨rfl, rfl⟩
            simp [doneC, resOf, resAV, tup, pinR, PV.Le_self, hbs, St.lowers, St.lower, stLe, leEnv, leObs, obLe, injB, pinC, AV.leC, AV.leCs, PV.leC, PV.Le_v, St.get, St.obj, look, rho, isNew, keptC, renH, Mode.ok, Mode.isZ, PV.isVal, PV.isNilSl, List.all_nil, List.all_cons, List.any_nil, List.any_cons, List.map_nil, List.map_cons, res15]
          · have e := bad (by omega) (by simp only [pSt, not_t h4, Bool.and_false])
            simp only [pH, e]
            refine ResOk.mk [] [] [0] _ _ ?_ ⟨rfl, rfl⟩
            simp [doneC, resOf, resAV, tup, pinR, PV.Le_self, hbs, St.lowers, St.lower, stLe, leEnv, leObs, obLe, injB, pinC, AV.leC, AV.leCs, PV.leC, PV.Le_v, St.get, St.obj, look, rho, isNew, keptC, renH, Mode.ok, Mode.isZ, PV.isVal, PV.isNilSl, List.all_nil, List.all_cons, List.any_nil, List.any_cons, List.map_nil, List.map_cons, res15]
          · have ha := not_f h3
            have hst : pSt U k = true := by simp only [pSt, ha, not_f h4, Bool.and_self]
            have hr := plf_rng (U := U) hv hall _ ha
            have eF : ∀ i, 3 * k ≤ i → i < 3 * k + 3 → pF T S U i = litI (pathL (plf T S U k (U.getD k u0).a)) (i - 3 * k) := fun i => pF_at T S U
            have eU := pf_up (T := T) (S := S) hst
            simp only [pf_get ha, Option.getD_some, intV]
            generalize plf T S U k (U.getD k u0).a = L at *
            refine ⟨trivial, c_path _ hr, ⟨⟨by omega, by omega⟩, fun _ _ _ _ => rfl⟩, Again.mk (k + 1) [] [(8, 55)] [] ⟨by omega, fun j hj => ?_⟩ (by omega) ?_⟩
            · by_cases h5 : j = k
              · subst h5; exact hst
              · exact hall j (by omega)
            · simp only [st_imP2]
              generalize pF T S U = fB at *
              generalize U.getD k u0 = u at *
              simp [hbs, St.lowers, St.lower, stLe, leEnv, leObs, obLe, injB, pinC, AV.leC, AV.leCs, PV.leC, PV.Le_v, St.get, St.obj, look, rho, isNew, keptC, renH, Mode.ok, Mode.isZ, PV.isVal, PV.isNilSl, List.all_nil, List.all_cons, List.any_nil, List.any_cons, List.map_nil, List.map_cons, PV.Le_self, ek, Nat.mul_succ]
              refine ⟨fun y => (eU y).symm, fun i hi => ?_⟩
              by_cases h5 : i < 3 * k
              · simp [h5]; exact .refl _
              · simp only [h5, if_false]
                rw [eF i (by omega) (by omega)]; exact .refl _
          · have : k = U.length := by omega
            subst this
            have hp : pAll T S U = true := by simp only [pAll, hv, hU, decide_true, Bool.true_and]; exact allB_iff.2 hall
            have e : pN T S U = U.length := by simp [pN, hp]
            simp only [pH, e]
            refine ResOk.mk [] [(0, 8)] [] _ _ ?_ ⟨rfl, rfl⟩
            simp [doneC, resOf, resAV, tup, pinR, PV.Le_self, hbs, St.lowers, St.lower, stLe, leEnv, leObs, obLe, injB, pinC, AV.leC, AV.leCs, PV.leC, PV.Le_v, St.get, St.obj, look, rho, isNew, keptC, renH, Mode.ok, Mode.isZ, PV.isVal, PV.isNilSl, List.all_nil, List.all_cons, List.any_nil, List.any_cons, List.map_nil, List.map_cons, res15]
theorem c_spP (T : List (List Blk)) (S : List Blk) (U : List Us) (hT : T.length ≤ 1048576) (hS : S.length + T.flatten.length ≤ 1048576) : PObj Tryd.prog G0 17 [ME T S, UL false U] [] (.own 0) (pH T S U) := by
  refine PObj.by chk17 rfl (ev_spP T S U) ?_
  simp only [VC.holds_split, VC.holds_need, VC.holds_doneP, VC.holds_done, VC.holds_either, VC.holds_call, VC.holds_callE, VC.holds_lend, VC.holds_stop, VC.holds_fail, decide_eq_true_eq, decide_eq_false_iff_not]
  refine ⟨c_smM T S hT hS, fun h => ?_, fun h1 => ⟨fun h => ?_, fun h2 => ?_⟩⟩
  · have e := p_no (T := T) (S := S) (U := U) (by simp only [pAll, not_t h, Bool.false_and])
    simp only [pH, e]
    refine ResOk.mk [] [(0, 9)] [] _ _ ?_ ⟨rfl, rfl⟩
    simp [doneC, resOf, resAV, tup, pinR, PV.Le_self, hbs, St.lowers, St.lower, stLe, leEnv, leObs, obLe, injB, pinC, AV.leC, AV.leCs, PV.leC, PV.Le_v, St.get, St.obj, look, rho, isNew, keptC, renH, Mode.ok, Mode.isZ, PV.isVal, PV.isNilSl, List.all_nil, List.all_cons, List.any_nil, List.any_cons, List.map_nil, List.map_cons, res17]
  · have : ¬ U.length ≤ 40 := by omega
    have e := p_no (T := T) (S := S) (U := U) (by simp only [pAll, this, decide_false, Bool.false_and, Bool.and_false])
    simp only [pH, e]
    refine ResOk.mk [] [(0, 9)] [] _ _ ?_ ⟨rfl, rfl⟩
    simp [doneC, resOf, resAV, tup, pinR, PV.Le_self, hbs, St.lowers, St.lower, stLe, leEnv, leObs, obLe, injB, pinC, AV.leC, AV.leCs, PV.leC, PV.Le_v, St.get, St.obj, look, rho, isNew, keptC, renH, Mode.ok, Mode.isZ, PV.isVal, PV.isNilSl, List.all_nil, List.all_cons, List.any_nil, List.any_cons, List.map_nil, List.map_cons, res17]
  · have hv := not_f h1
    have hU : U.length ≤ 40 := by omega
    refine loop_by (st_spP T S U) (fun k => k ≤ U.length ∧ ∀ j, j < k → pSt U j = true) (fun k => U.length - k) 0 [] [] [] (by simp) ?_ (evr_spP T S U) fun k hk => ?_
    · simp [st_spP, hbs, St.lowers, St.lower, stLe, leEnv, leObs, obLe, injB, pinC, AV.leC, AV.leCs, PV.leC, PV.Le_v, St.get, St.obj, look, rho, isNew, keptC, renH, Mode.ok, Mode.isZ, PV.isVal, PV.isNilSl, List.all_nil, List.all_cons, List.any_nil, List.any_cons, List.map_nil, List.map_cons, PV.Le_self]
    · obtain ⟨hk, hall⟩ := hk
      have ek : IntKind.i64.wrap ((k : Int) + 1) = ((k + 1 : Nat) : Int) := wrap_in (by omega) (by omega)
      simp only [VC.holds_split, VC.holds_need, VC.holds_doneP, VC.holds_done, VC.holds_either, VC.holds_call, VC.holds_callE, VC.holds_lend, VC.holds_stop, VC.holds_fail, decide_eq_true_eq, decide_eq_false_iff_not, Int.toNat_natCast]
      have bad : k < U.length → pSt U k = false → pN T S U = 0 := fun h1 h2 => p_no (by simp only [pAll, allB_no h1 h2, Bool.and_false])
      refine ⟨fun h0 => ⟨⟨by omega, by omega⟩, c_l1In _ _ _, fun h3 => ?_, fun h3 => ⟨⟨by omega, by omega⟩, c_l1In _ _ _, fun h4 => ?_, fun h4 => ⟨⟨by omega, by omega⟩, c_lf _ _ _ hT hS, ?_⟩⟩⟩, fun h0 => ?_⟩
      · have e := bad (by omega) (by simp only [pSt, not_t h3, Bool.false_and])
        simp only [pH, e]
        refine ResOk.mk [] [(0, 41)] [] _ _ ?_ ⟨rfl, rfl⟩
        simp [doneC, resOf, resAV, tup, pinR, PV.Le_self, hbs, St.lowers, St.lower, stLe, leEnv, leObs, obLe, injB, pinC, AV.leC, AV.leCs, PV.leC, PV.Le_v, St.get, St.obj, look, rho, isNew, keptC, renH, Mode.ok, Mode.isZ, PV.isVal, PV.isNilSl, List.all_nil, List.all_cons, List.any_nil, List.any_cons, List.map_nil, List.map_cons, res17]
      · have e := bad (by omega) (by simp only [pSt, not_t h4, Bool.and_false])
        simp only [pH, e]
        refine ResOk.mk [] [(0, 41)] [] _ _ ?_ ⟨rfl, rfl⟩
        simp [doneC, resOf, resAV, tup, pinR, PV.Le_self, hbs, St.lowers, St.lower, stLe, leEnv, leObs, obLe, injB, pinC, AV.leC, AV.leCs, PV.leC, PV.Le_v, St.get, St.obj, look, rho, isNew, keptC, renH, Mode.ok, Mode.isZ, PV.isVal, PV.isNilSl, List.all_nil, List.all_cons, List.any_nil, List.any_cons, List.map_nil, List.map_cons, res17]
      · have ha := not_f h3
        have hkU : k < U.length := by omega
        have hst : pSt U k = true := by simp only [pSt, ha, not_f h4, Bool.and_self]
        have el : leafM T S (U.getD k u0).a = plf T S U 0 (U.getD k u0).a := (leafM_ok hv ha).1
        rw [el]
        refine loop_by (st_spP2 T S U k (U.getD k u0).a) (fun j => j ≤ k) (fun j => k - j) 0 [] [] [] (Nat.zero_le _) ?_ (fun J j => evr_spP2 T S U _ k (U.getD k u0).a J j) fun j hj => ?_
        · simp only [st_spP2]
          generalize U.getD k u0 = u at *
          simp [hbs, St.lowers, St.lower, stLe, leEnv, leObs, obLe, injB, pinC, AV.leC, AV.leCs, PV.leC, PV.Le_v, St.get, St.obj, look, rho, isNew, keptC, renH, Mode.ok, Mode.isZ, PV.isVal, PV.isNilSl, List.all_nil, List.all_cons, List.any_nil, List.any_cons, List.map_nil, List.map_cons, PV.Le_self]
        · have ej : IntKind.i64.wrap ((j : Int) + 1) = ((j + 1 : Nat) : Int) := wrap_in (by omega) (by omega)
          have hu : plf T S U (j + 1) (U.getD k u0).a = if (U.getD j u0).a = (U.getD k u0).a then (U.getD j u0).l else plf T S U j (U.getD k u0).a := rfl
          simp only [VC.holds_split, VC.holds_need, VC.holds_doneP, VC.holds_done, VC.holds_either, VC.holds_call, VC.holds_callE, VC.holds_lend, VC.holds_stop, VC.holds_fail, decide_eq_true_eq, decide_eq_false_iff_not, Int.toNat_natCast]
          refine ⟨fun h5 => ⟨⟨by omega, by omega⟩, ⟨by omega, by omega⟩, fun h6 => ⟨⟨by omega, by omega⟩, Again.mk (j + 1) [] [] [] (by omega) (by omega) ?_⟩, fun h6 => Again.mk (j + 1) [] [] [] (by omega) (by omega) ?_⟩, fun h5 => ?_⟩
          · have h6' : (U.getD j u0).a = (U.getD k u0).a := by simpa using h6
            rw [if_pos h6'] at hu
            simp only [st_spP2, hu]
            generalize U.getD j u0 = u at *
            generalize U.getD k u0 = w at *
            simp [hbs, St.lowers, St.lower, stLe, leEnv, leObs, obLe, injB, pinC, AV.leC, AV.leCs, PV.leC, PV.Le_v, St.get, St.obj, look, rho, isNew, keptC, renH, Mode.ok, Mode.isZ, PV.isVal, PV.isNilSl, List.all_nil, List.all_cons, List.any_nil, List.any_cons, List.map_nil, List.map_cons, PV.Le_self, ej]
          · have h6' : ¬ (U.getD j u0).a = (U.getD k u0).a := by simpa using h6
            rw [if_neg h6'] at hu
            simp only [st_spP2, hu]
            generalize U.getD j u0 = u at *
            generalize U.getD k u0 = w at *
            simp [hbs, St.lowers, St.lower, stLe, leEnv, leObs, obLe, injB, pinC, AV.leC, AV.leCs, PV.leC, PV.Le_v, St.get, St.obj, look, rho, isNew, keptC, renH, Mode.ok, Mode.isZ, PV.isVal, PV.isNilSl, List.all_nil, List.all_cons, List.any_nil, List.any_cons, List.map_nil, List.map_cons, PV.Le_self, ej]
          · have hjk : j = k := by omega
            subst hjk
            have hr := plf_rng (U := U) hv hall _ ha
            have eF : ∀ i, 3 * j ≤ i → i < 3 * j + 3 → pF T S U i = litI (pathL (plf T S U j (U.getD j u0).a)) (i - 3 * j) := fun i => pF_at T S U
            generalize plf T S U j (U.getD j u0).a = L at *
            refine ⟨c_sPath3 _ hr, ⟨⟨by omega, by omega⟩, fun _ _ _ _ => rfl⟩, Again.mk (j + 1) [] [(9, 73)] [] ⟨by omega, fun i hi => ?_⟩ (by omega) ?_⟩
            · by_cases h7 : i = j
              · subst h7; exact hst
              · exact hall i (by omega)
            · simp only [st_spP]
              generalize pF T S U = fB at *
              simp [hbs, St.lowers, St.lower, stLe, leEnv, leObs, obLe, injB, pinC, AV.leC, AV.leCs, PV.leC, PV.Le_v, St.get, St.obj, look, rho, isNew, keptC, renH, Mode.ok, Mode.isZ, PV.isVal, PV.isNilSl, List.all_nil, List.all_cons, List.any_nil, List.any_cons, List.map_nil, List.map_cons, PV.Le_self, ek, Nat.mul_succ]
              intro i hi
              by_cases h7 : i < 3 * j
              · simp [h7]; exact .refl _
              · simp only [h7, if_false]
                rw [eF i (by omega) (by omega)]; exact .refl _
      · have : k = U.length := by omega
        subst this
        have hp : pAll T S U = true := by simp only [pAll, hv, hU, decide_true, Bool.true_and]; exact allB_iff.2 hall
        have e : pN T S U = U.length := by simp [pN, hp]
        simp only [pH, e]
        refine ResOk.mk [] [(0, 9)] [] _ _ ?_ ⟨rfl, rfl⟩
        simp [doneC, resOf, resAV, tup, pinR, PV.Le_self, hbs, St.lowers, St.lower, stLe, leEnv, leObs, obLe, injB, pinC, AV.leC, AV.leCs, PV.leC, PV.Le_v, St.get, St.obj, look, rho, isNew, keptC, renH, Mode.ok, Mode.isZ, PV.isVal, PV.isNilSl, List.all_nil, List.all_cons, List.any_nil, List.any_cons, List.map_nil, List.map_cons, res17]
end Go.Gw
