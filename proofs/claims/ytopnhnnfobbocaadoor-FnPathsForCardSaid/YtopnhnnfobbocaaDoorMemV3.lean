/- Memories: which are valid, by the program; with no condition. -/
import Derived.Test.YtopnhnnfobbocaaDoorMemV2
import Derived.KernelRfl
namespace Go.Gw
open Go Go.Proofs
set_option linter.unusedSimpArgs false
set_option linter.unusedVariables false
set_option maxRecDepth 100000
def ir58_L1 : Ir :=
  (.seq
  (.reg [] [o 17 (.bin .lss (tt 16) (tt 15))])
  (.seq
  (.cond (tt 17)
   .skip
   (.exit 0))
  (.seq
  (.block 1
   (.seq
   (.reg [18, 19] [o 18 (.idx 3 (tt 14) (tt 16)),
     o 19 (.load true 3 (tt 18)),
     o 5 (.alloc [(.int .i64 0), (.int .i64 0), (.int .i64 0)]),
     on (.store 3 (tt 5) (tt 19))])
   (.seq
   (.seq
   (.reg [20, 21, 22, 23, 24, 25, 26, 27, 28, 29, 30, 31, 32, 33, 34, 35, 36, 37, 38, 39, 40] [o 20 (.fadr 0 (tt 5)),
     o 21 (.load false 1 (tt 20)),
     o 22 (.call 60 [(tt 21)]),
     o 23 (.un .not (tt 22)),
     o 24 (.mov (tt 23)),
     og 25 24 false (.mov (tt 3)),
     og 26 24 false (.fadr 0 (tt 5)),
     og 27 24 false (.load false 1 (tt 26)),
     og 28 24 false (.lookM (.bool false) (tt 25) (tt 27)),
     o 29 (.pick (tt 24) (cb true) (tt 28)),
     o 30 (.mov (tt 29)),
     og 31 30 false (.fadr 1 (tt 5)),
     og 32 30 false (.load false 1 (tt 31)),
     og 33 30 false (.call 133 [(tt 32)]),
     og 34 30 false (.un .not (tt 33)),
     o 35 (.pick (tt 30) (cb true) (tt 34)),
     o 36 (.mov (tt 35)),
     og 37 36 false (.fadr 2 (tt 5)),
     og 38 36 false (.load false 1 (tt 37)),
     og 39 36 false (.call 61 [(tt 38)]),
     og 40 36 false (.un .not (tt 39)),
     o 41 (.pick (tt 36) (cb true) (tt 40))])
   (.cond (tt 41)
    (.seq
    (.reg [] [o 2 (.mov (cb false))])
    .ret)
    .skip))
   (.reg [42, 43, 44] [o 42 (.mov (tt 3)),
     o 43 (.fadr 0 (tt 5)),
     o 44 (.load false 1 (tt 43)),
     on (.updM (tt 42) (tt 44) (cb true))]))))
  (.reg [45] [o 45 (.bin .add (tt 16) (ci 1)),
    o 16 (.mov (tt 45))]))))
def ir58_L2 : Ir :=
  (.seq
  (.reg [] [o 50 (.bin .lss (tt 49) (tt 48))])
  (.seq
  (.cond (tt 50)
   .skip
   (.exit 2))
  (.seq
  (.block 3
   (.seq
   (.reg [51, 52, 53] [o 51 (.mov (tt 49)),
     o 52 (.idx 1 (tt 47) (tt 49)),
     o 53 (.load false 1 (tt 52)),
     o 6 (.alloc [(.int .i64 0)]),
     on (.store 1 (tt 6) (tt 51)),
     o 7 (.mov (tt 53))])
   (.seq
   (.reg [54, 55, 56, 57, 58, 59, 60] [o 54 (.mov (tt 7)),
     o 55 (.len (tt 54)),
     o 56 (.bin .gtr (tt 55) (ci 2)),
     o 57 (.mov (tt 56)),
     og 58 57 false (.mov (tt 7)),
     og 59 57 false (.mkFn 135 [] [(tt 6)]),
     og 60 57 false (.call 134 [(tt 58), (tt 59)]),
     o 61 (.pick (tt 57) (cb true) (tt 60))])
   (.cond (tt 61)
    (.seq
    (.reg [] [o 2 (.mov (cb false))])
    .ret)
    .skip))))
  (.reg [62] [o 62 (.bin .add (tt 49) (ci 1)),
    o 49 (.mov (tt 62))]))))
def ir58_T3 : Ir :=
  (.seq
  (.reg [63, 64, 65] [o 63 (.mov (tt 3)),
    o 64 (.lenM (tt 63)),
    o 65 (.bin .eql (tt 64) (ci 8)),
    o 2 (.mov (tt 65))])
  .ret)
def ir58_T4 : Ir :=
  (.seq
  (.seq
  (.reg [46] [o 46 (.fadr 0 (tt 1)),
    o 47 (.load false 1 (tt 46)),
    o 48 (.len (tt 47)),
    o 49 (.mov (ci 0))])
  (.block 2
   (.loop ir58_L2)))
  ir58_T3)
def ir58 : Ir :=
  (.seq
  (.reg [] [o 1 (.box 2 (tt 0)),
    o 2 (.mov (cb false))])
  (.seq
  (.seq
  (.reg [8, 9, 10] [o 8 (.fadr 0 (tt 1)),
    o 9 (.load false 1 (tt 8)),
    o 10 (.len (tt 9)),
    o 11 (.bin .neq (tt 10) (ci 7))])
  (.cond (tt 11)
   (.seq
   (.reg [] [o 2 (.mov (cb false))])
   .ret)
   .skip))
  (.seq
  (.reg [12] [o 12 (.mkM),
    o 3 (.mov (tt 12))])
  (.seq
  (.seq
  (.reg [13] [o 13 (.load true 2 (tt 1)),
    o 14 (.call 59 [(tt 13)]),
    o 15 (.len (tt 14)),
    o 16 (.mov (ci 0))])
  (.block 0
   (.loop ir58_L1)))
  ir58_T4))))
def keep58 : List Nat := [0, 1, 2, 3, 5, 6, 7, 11, 14, 15, 16, 17, 41, 47, 48, 49, 50, 61]
def res58 : List RI := [.tmp 2]
theorem chk58 : chk Tryd.prog 58 1 keep58 = some (ir58, res58) := by kernel_rfl

def okB (b : Blk) : Bool := inB b.a 0 7 && valB b.v && inB b.l 0 3
def seenB (A : List Blk) (k : Nat) (x : Int) : Bool := !allB (fun j => !((A.getD j b0).a == x)) k
def seenF (A : List Blk) (k : Nat) (x : Int) : Option Value := if seenB A k x = true then some (.bool true) else none
def stepB (A : List Blk) (j : Nat) : Bool := okB (A.getD j b0) && !seenB A j (A.getD j b0).a
def vbB (A : List Blk) : Bool := allB (stepB A) A.length
def buB (T : List (List Blk)) (i : Nat) : Bool := decide ((T.getD i []).length ≤ 2) && allB (fun j => onB ((T.getD i []).getD j b0).l i) (T.getD i []).length
def memB (T : List (List Blk)) (S : List Blk) : Bool := decide (T.length = 7) && vbB (S ++ T.flatten) && allB (buB T) T.length && decide ((S ++ T.flatten).length = 8)
theorem seenB_up {A : List Blk} {k : Nat} (x : Int) : seenB A (k + 1) x = (seenB A k x || (A.getD k b0).a == x) := by
  simp only [seenB, allB]
  cases allB (fun j => !((A.getD j b0).a == x)) k <;> cases ((A.getD k b0).a == x) <;> rfl
theorem seenF_up {A : List Blk} {k : Nat} (x : Int) : seenF A (k + 1) x = if x = (A.getD k b0).a then some (.bool true) else seenF A k x := by
  unfold seenF
  rw [seenB_up]
  by_cases h : x = (A.getD k b0).a
  · rw [if_pos h, ← h]; simp
  · have : ((A.getD k b0).a == x) = false := by simpa using fun e => h e.symm
    rw [if_neg h, this, Bool.or_false]
theorem getD_mem {α : Type} {d : α} {l : List α} {i : Nat} (h : i < l.length) : l.getD i d ∈ l := by
  rw [List.getD_eq_getElem?_getD, List.getElem?_eq_getElem h]; exact List.getElem_mem _
theorem vb_ok {A : List Blk} (h : vbB A = true) {b : Blk} (hb : b ∈ A) : okB b = true := by
  obtain ⟨i, hi, rfl⟩ := List.getElem_of_mem hb
  have := allB_iff.1 h i hi
  simp only [stepB, Bool.and_eq_true, List.getD_eq_getElem?_getD, List.getElem?_eq_getElem hi, Option.getD_some] at this
  exact this.1
theorem ok_l {b : Blk} (h : okB b = true) : 0 ≤ b.l ∧ b.l ≤ 3 := by
  simp only [okB, Bool.and_eq_true] at h
  exact inB_iff.1 h.2
theorem mem_all {T : List (List Blk)} {S : List Blk} {i j : Nat} (hi : i < T.length) (hj : j < (T.getD i []).length) : (T.getD i []).getD j b0 ∈ allM T S :=
  List.mem_append_right _ (List.mem_flatten.2 ⟨_, getD_mem hi, getD_mem hj⟩)
def in_mV (T : List (List Blk)) (S : List Blk) := (G0, res58, ([] : List (Nat × Ob)), [Item.ir ir58], start [ME T S] [])
theorem ev_mV : ∀ (T : List (List Blk)) (S : List Blk), ev G0 res58 [] (3000 : Nat) (Or.nil.split (Or.call [] (AV.own (0 : Nat)) [((0 : Nat), Ob.row Mode.u false (3 : Nat) (S ++ T.flatten).length (SB (S ++ T.flatten)) [])] Or.nil)) [Item.ir ir58] (start [ME T S] []) = VC.split ((↑T.length : Int) != (7 : Int)) (VC.doneP (AV.p true (PV.v (Value.bool false)))) (VC.call (59 : Nat) [AV.ag [AV.p false (PV.sl false (1 : Nat) T.length (BB T)), AV.p false (PV.sl false (3 : Nat) S.length (SB S))]] [] (AV.own (0 : Nat)) [((0 : Nat), Ob.row Mode.u false (3 : Nat) (S ++ T.flatten).length (SB (S ++ T.flatten)) [])] (VC.loop ir58_L1 [Item.bend (0 : Nat), Item.ir ir58_T4] (St.mk [((0 : Nat), AV.ag [AV.p false (PV.sl false (1 : Nat) T.length (BB T)), AV.p false (PV.sl false (3 : Nat) S.length (SB S))]), ((1 : Nat), AV.adr (1 : Nat) (0 : Nat)), ((2 : Nat), AV.p true (PV.v (Value.bool false))), ((11 : Nat), AV.p true (PV.v (Value.bool ((↑T.length : Int) != (7 : Int))))), ((3 : Nat), AV.own (12 : Nat)), ((14 : Nat), AV.own (1014 : Nat)), ((15 : Nat), AV.p true (PV.v (Value.int IntKind.i64 (↑(S ++ T.flatten).length : Int)))), ((16 : Nat), AV.p true (PV.v (Value.int IntKind.i64 (0 : Int))))] [((1 : Nat), Ob.box [AV.p false (PV.sl false (1 : Nat) T.length (BB T)), AV.p false (PV.sl false (3 : Nat) S.length (SB S))]), ((12 : Nat), Ob.map (fun (x : Int) => none) (0 : Nat)), ((1014 : Nat), Ob.row Mode.u false (3 : Nat) (S ++ T.flatten).length (SB (S ++ T.flatten)) [])]))) := by intros; kernel_rfl
def st_mV (T : List (List Blk)) (S : List Blk) (A : List Blk) (k : Nat) : St := ⟨[(1, .adr 1 0), (2, AB false), (3, .own 12), (14, .p true (.sl false 3 A.length (SB A))), (15, AI A.length), (16, AI k)], [(1, .box [BL false T, BS false S]), (12, .map (seenF A k) k)]⟩
def r_mV (T : List (List Blk)) (S : List Blk) (A : List Blk) (I : Nat → St → Prop) (k : Nat) := (G0, res58, ([] : List (Nat × Ob)), [Item.ir ir58_L1, .lend (I k), Item.bend 0, Item.ir ir58_T4], st_mV T S A k)
theorem evr_mV : ∀ (T : List (List Blk)) (S A : List Blk) (I : Nat → St → Prop) (k : Nat), ev G0 res58 [] (3000 : Nat) ((Or.call [] (AB (inB ((A.getD (↑k : Int).toNat b0).col (nat_lit 0)) (0 : Int) (7 : Int))) [] (Or.nil.lit.lit.lit.lit.lit.lit.lit.lit.lit.lit.lit.lit.lit.lit.lit.split (Or.nil.lit.lit.lit.lit.lit.lit.lit.lit.lit.lit.split (Or.call [] (AB (valB ((A.getD (↑k : Int).toNat b0).col (nat_lit 1)))) [] (Or.nil.lit.lit.lit.lit.lit.split (Or.call [] (AB (inB ((A.getD (↑k : Int).toNat b0).col (nat_lit 2)) (0 : Int) (3 : Int))) [] (Or.nil.split Or.nil).lit.lit).lit.lit).lit.lit).lit.lit).lit.lit.lit.lit)).split Or.nil) [Item.ir ir58_L1, Item.lend (I k), Item.bend (0 : Nat), Item.ir ir58_T4] (st_mV T S A k) = VC.split (decide ((↑k : Int) < (↑A.length : Int))) (VC.need ((0 : Int) ≤ (↑k : Int) ∧ (↑k : Int).toNat < A.length) (VC.call (60 : Nat) [AV.p true (PV.v (Value.int IntKind.i64 ((A.getD (↑k : Int).toNat b0).col (nat_lit 0))))] [] (AB (inB ((A.getD (↑k : Int).toNat b0).col (nat_lit 0)) (0 : Int) (7 : Int))) [] (VC.split (!inB ((A.getD (↑k : Int).toNat b0).col (nat_lit 0)) (0 : Int) (7 : Int)) (VC.doneP (AV.p true (PV.v (Value.bool false)))) (VC.need ((seenF A k ((A.getD (↑k : Int).toNat b0).col (nat_lit 0))).getD (Value.bool false) = Value.bool (boolV ((seenF A k ((A.getD (↑k : Int).toNat b0).col (nat_lit 0))).getD (Value.bool false)))) (VC.split (boolV ((seenF A k ((A.getD (↑k : Int).toNat b0).col (nat_lit 0))).getD (Value.bool false))) (VC.doneP (AV.p true (PV.v (Value.bool false)))) (VC.call (133 : Nat) [AV.p true (PV.v (Value.int IntKind.i64 ((A.getD (↑k : Int).toNat b0).col (nat_lit 1))))] [] (AB (valB ((A.getD (↑k : Int).toNat b0).col (nat_lit 1)))) [] (VC.split (!valB ((A.getD (↑k : Int).toNat b0).col (nat_lit 1))) (VC.doneP (AV.p true (PV.v (Value.bool false)))) (VC.call (61 : Nat) [AV.p true (PV.v (Value.int IntKind.i64 ((A.getD (↑k : Int).toNat b0).col (nat_lit 2))))] [] (AB (inB ((A.getD (↑k : Int).toNat b0).col (nat_lit 2)) (0 : Int) (3 : Int))) [] (VC.split (!inB ((A.getD (↑k : Int).toNat b0).col (nat_lit 2)) (0 : Int) (3 : Int)) (VC.doneP (AV.p true (PV.v (Value.bool false)))) (VC.lend (I k) (St.mk [((1 : Nat), AV.adr (1 : Nat) (0 : Nat)), ((2 : Nat), AV.p true (PV.v (Value.bool false))), ((3 : Nat), AV.own (12 : Nat)), ((14 : Nat), AV.p true (PV.sl false (3 : Nat) A.length (SB A))), ((15 : Nat), AV.p true (PV.v (Value.int IntKind.i64 (↑A.length : Int)))), ((16 : Nat), AV.p true (PV.v (Value.int IntKind.i64 (IntKind.i64.wrap ((↑k : Int) + (1 : Int)))))), ((17 : Nat), AV.p true (PV.v (Value.bool (decide ((↑k : Int) < (↑A.length : Int)))))), ((5 : Nat), AV.adr (5 : Nat) (0 : Nat)), ((41 : Nat), AV.p true (PV.v (Value.bool !inB ((A.getD (↑k : Int).toNat b0).col (nat_lit 2)) (0 : Int) (3 : Int))))] [((1 : Nat), Ob.box [AV.p false (PV.sl false (1 : Nat) T.length (BB T)), AV.p false (PV.sl false (3 : Nat) S.length (SB S))]), ((12 : Nat), Ob.map (fun (i : Int) => if i = (A.getD (↑k : Int).toNat b0).col (nat_lit 0) then some (Value.bool true) else seenF A k i) (match seenF A k ((A.getD (↑k : Int).toNat b0).col (nat_lit 0)) with | some val => k | none => k + (1 : Nat))), ((5 : Nat), Ob.box [AV.p true (PV.v (Value.int IntKind.i64 ((A.getD (↑k : Int).toNat b0).col (nat_lit 0)))), AV.p true (PV.v (Value.int IntKind.i64 ((A.getD (↑k : Int).toNat b0).col (nat_lit 1)))), AV.p true (PV.v (Value.int IntKind.i64 ((A.getD (↑k : Int).toNat b0).col (nat_lit 2))))])]))))))))))) (VC.loop ir58_L2 [Item.bend (2 : Nat), Item.ir ir58_T3] (St.mk [((1 : Nat), AV.adr (1 : Nat) (0 : Nat)), ((2 : Nat), AV.p true (PV.v (Value.bool false))), ((3 : Nat), AV.own (12 : Nat)), ((14 : Nat), AV.p true (PV.sl false (3 : Nat) A.length (SB A))), ((15 : Nat), AV.p true (PV.v (Value.int IntKind.i64 (↑A.length : Int)))), ((16 : Nat), AV.p true (PV.v (Value.int IntKind.i64 (↑k : Int)))), ((17 : Nat), AV.p true (PV.v (Value.bool (decide ((↑k : Int) < (↑A.length : Int)))))), ((47 : Nat), AV.p false (PV.sl false (1 : Nat) T.length (BB T))), ((48 : Nat), AV.p true (PV.v (Value.int IntKind.i64 (↑T.length : Int)))), ((49 : Nat), AV.p true (PV.v (Value.int IntKind.i64 (0 : Int))))] [((1 : Nat), Ob.box [AV.p false (PV.sl false (1 : Nat) T.length (BB T)), AV.p false (PV.sl false (3 : Nat) S.length (SB S))]), ((12 : Nat), Ob.map (seenF A k) k)])) := by intros; kernel_rfl
def st_mV2 (T : List (List Blk)) (S : List Blk) (A : List Blk) (k : Nat) : St := ⟨[(1, .adr 1 0), (2, AB false), (3, .own 12), (47, BL false T), (48, AI T.length), (49, AI k)], [(1, .box [BL false T, BS false S]), (12, .map (seenF A A.length) A.length)]⟩
def r_mV2 (T : List (List Blk)) (S : List Blk) (A : List Blk) (I : Nat → St → Prop) (k : Nat) := (G0, res58, ([] : List (Nat × Ob)), [Item.ir ir58_L2, .lend (I k), Item.bend 2, Item.ir ir58_T3], st_mV2 T S A k)
theorem evr_mV2 : ∀ (T : List (List Blk)) (S A : List Blk) (I : Nat → St → Prop) (k : Nat), ev G0 res58 [] (3000 : Nat) ((Or.nil.lit.lit.lit.lit.split (Or.call [(6 : Nat)] (AB !allB (fun (j : Nat) => onB ((T.getD (↑k : Int).toNat []).getD j b0).l (↑k : Int)) (T.getD (↑k : Int).toNat []).length) [((0 : Nat), BX (↑k : Int))] (Or.nil.split Or.nil).lit).lit.lit).split Or.nil) [Item.ir ir58_L2, Item.lend (I k), Item.bend (2 : Nat), Item.ir ir58_T3] (st_mV2 T S A k) = VC.split (decide ((↑k : Int) < (↑T.length : Int))) (VC.need ((0 : Int) ≤ (↑k : Int) ∧ (↑k : Int).toNat < T.length) (VC.split (decide ((2 : Int) < (↑(T.getD (↑k : Int).toNat []).length : Int))) (VC.doneP (AV.p true (PV.v (Value.bool false)))) (VC.call (134 : Nat) [AV.p false (PV.sl false (3 : Nat) (T.getD (↑k : Int).toNat []).length (SB (T.getD (↑k : Int).toNat []))), AV.cl (135 : Nat) [] [AV.adr (0 : Nat) (0 : Nat)]] [((0 : Nat), Ob.box [AV.p true (PV.v (Value.int IntKind.i64 (↑k : Int)))])] (AB !allB (fun (j : Nat) => onB ((T.getD (↑k : Int).toNat []).getD j b0).l (↑k : Int)) (T.getD (↑k : Int).toNat []).length) [((0 : Nat), BX (↑k : Int))] (VC.split (!allB (fun (j : Nat) => onB ((T.getD (↑k : Int).toNat []).getD j b0).l (↑k : Int)) (T.getD (↑k : Int).toNat []).length) (VC.doneP (AV.p true (PV.v (Value.bool false)))) (VC.lend (I k) (St.mk [((1 : Nat), AV.adr (1 : Nat) (0 : Nat)), ((2 : Nat), AV.p true (PV.v (Value.bool false))), ((3 : Nat), AV.own (12 : Nat)), ((47 : Nat), AV.p false (PV.sl false (1 : Nat) T.length (BB T))), ((48 : Nat), AV.p true (PV.v (Value.int IntKind.i64 (↑T.length : Int)))), ((49 : Nat), AV.p true (PV.v (Value.int IntKind.i64 (IntKind.i64.wrap ((↑k : Int) + (1 : Int)))))), ((50 : Nat), AV.p true (PV.v (Value.bool (decide ((↑k : Int) < (↑T.length : Int)))))), ((6 : Nat), AV.adr (6 : Nat) (0 : Nat)), ((7 : Nat), AV.p false (PV.sl false (3 : Nat) (T.getD (↑k : Int).toNat []).length (SB (T.getD (↑k : Int).toNat [])))), ((61 : Nat), AV.p true (PV.v (Value.bool !allB (fun (j : Nat) => onB ((T.getD (↑k : Int).toNat []).getD j b0).l (↑k : Int)) (T.getD (↑k : Int).toNat []).length)))] [((1 : Nat), Ob.box [AV.p false (PV.sl false (1 : Nat) T.length (BB T)), AV.p false (PV.sl false (3 : Nat) S.length (SB S))]), ((12 : Nat), Ob.map (seenF A A.length) A.length), ((6 : Nat), Ob.box [AV.p true (PV.v (Value.int IntKind.i64 (↑k : Int)))])])))))) (VC.doneP (AV.p true (PV.v (Value.bool ((↑A.length : Int) == (8 : Int)))))) := by intros; kernel_rfl
theorem not_t {b : Bool} (h : (!b) = true) : b = false := by cases b <;> simp_all
theorem not_f {b : Bool} (h : (!b) = false) : b = true := by cases b <;> simp_all
theorem look_b {A : List Blk} {k : Nat} {x : Int} : (seenF A k x).getD (.bool false) = .bool (seenB A k x) := by
  unfold seenF
  cases seenB A k x <;> rfl
theorem c_mV (T : List (List Blk)) (S : List Blk) (hT : T.length ≤ 1048576) (hS : S.length + T.flatten.length ≤ 1048576) : PRet Tryd.prog G0 58 [ME T S] (AB (memB T S)) := by
  refine PRet.by chk58 (ev_mV T S) ?_
  simp only [VC.holds_split, VC.holds_need, VC.holds_doneP, VC.holds_done, VC.holds_either, VC.holds_call, VC.holds_callE, VC.holds_lend, VC.holds_stop, VC.holds_fail, decide_eq_true_eq, decide_eq_false_iff_not]
  refine ⟨fun h => ?_, fun h7 => ⟨c_all _ _ hT hS, ?_⟩⟩
  · have : ¬ T.length = 7 := by simp at h; omega
    simp [memB, this]
  have h7 : T.length = 7 := by simp at h7; omega
  have hA : (S ++ T.flatten).length ≤ 1048576 := by rw [List.length_append]; omega
  unfold memB
  have hmem : ∀ i, i < T.length → ∀ j, j < (T.getD i []).length → (T.getD i []).getD j b0 ∈ S ++ T.flatten := fun i hi j hj => mem_all hi hj
  have hlen : ∀ i, i < T.length → (T.getD i []).length ≤ T.flatten.length := fun i hi => by
    have h1 := flat_le T (i + 1)
    rw [take_flat hi, List.length_append] at h1
    omega
  generalize S ++ T.flatten = A at *
  refine loop_by (st_mV T S A) (fun k => k ≤ A.length ∧ ∀ j, j < k → stepB A j = true) (fun k => A.length - k) 0 [(1014, .f)] [] [] (by simp) ?_ (evr_mV T S A) fun k hk => ?_
  · simp [st_mV, hbs, St.lowers, St.lower, stLe, leEnv, leObs, obLe, injB, pinC, AV.leC, AV.leCs, PV.leC, PV.Le_v, St.get, St.obj, look, rho, isNew, keptC, renH, Mode.ok, Mode.isZ, PV.isVal, PV.isNilSl, List.all_nil, List.all_cons, List.any_nil, List.any_cons, List.map_nil, List.map_cons, PV.Le_self, Mode.low, St.setOb, ins]
    intro x; simp [seenF, seenB, allB]
  · obtain ⟨hk, hall⟩ := hk
    have ek : IntKind.i64.wrap ((k : Int) + 1) = ((k + 1 : Nat) : Int) := wrap_in (by omega) (by omega)
    simp only [VC.holds_split, VC.holds_need, VC.holds_doneP, VC.holds_done, VC.holds_either, VC.holds_call, VC.holds_callE, VC.holds_lend, VC.holds_stop, VC.holds_fail, decide_eq_true_eq, decide_eq_false_iff_not, Int.toNat_natCast, look_b, boolV]
    have c0 : (A.getD k b0).col 0 = (A.getD k b0).a := rfl
    have c1 : (A.getD k b0).col 1 = (A.getD k b0).v := rfl
    have c2 : (A.getD k b0).col 2 = (A.getD k b0).l := rfl
    have bad : k < A.length → stepB A k = false → (decide (T.length = 7) && vbB A && allB (buB T) T.length && decide (A.length = 8)) = false := fun h1 h2 => by
      rw [show vbB A = false from allB_no h1 h2]; simp
    refine ⟨fun h0 => ⟨⟨by omega, by omega⟩, c_isA _, fun h1 => ?_, fun h1 => ⟨trivial, fun h2 => ?_, fun h2 => ⟨c_isValue _, fun h3 => ?_, fun h3 => ⟨c_isL _, fun h4 => ?_, fun h4 => ?_⟩⟩⟩⟩, fun h0 => ?_⟩
    · have e : inB (A.getD k b0).a 0 7 = false := not_t h1
      rw [bad (by omega) (by simp only [stepB, okB, e, Bool.false_and, Bool.and_false])]; simp
    · have e : seenB A k (A.getD k b0).a = true := h2
      rw [bad (by omega) (by simp only [stepB, e]; simp)]; simp
    · have e : valB (A.getD k b0).v = false := not_t h3
      rw [bad (by omega) (by simp only [stepB, okB, e, Bool.false_and, Bool.and_false])]; simp
    · have e : inB (A.getD k b0).l 0 3 = false := not_t h4
      rw [bad (by omega) (by simp only [stepB, okB, e, Bool.false_and, Bool.and_false])]; simp
    · have e1 : inB (A.getD k b0).a 0 7 = true := not_f h1
      have e2 : seenB A k (A.getD k b0).a = false := h2
      have e3 : valB (A.getD k b0).v = true := not_f h3
      have e4 : inB (A.getD k b0).l 0 3 = true := not_f h4
      have e5 : seenF A k (A.getD k b0).a = none := by unfold seenF; rw [e2]; rfl
      refine Again.mk (k + 1) [] [] [] ⟨by omega, fun j hj => ?_⟩ (by omega) ?_
      · by_cases h5 : j = k
        · subst h5; simp only [stepB, okB, e1, e2, e3, e4]; rfl
        · exact hall j (by omega)
      · simp only [c0, e5]
        simp [st_mV, hbs, St.lowers, St.lower, stLe, leEnv, leObs, obLe, injB, pinC, AV.leC, AV.leCs, PV.leC, PV.Le_v, St.get, St.obj, look, rho, isNew, keptC, renH, Mode.ok, Mode.isZ, PV.isVal, PV.isNilSl, List.all_nil, List.all_cons, List.any_nil, List.any_cons, List.map_nil, List.map_cons, PV.Le_self, ek]
        intro x
        rw [seenF_up]
        simp
    · have : k = A.length := by omega
      subst this
      have hv : vbB A = true := allB_iff.2 hall
      refine loop_by (st_mV2 T S A) (fun k => k ≤ T.length ∧ ∀ j, j < k → buB T j = true) (fun k => T.length - k) 0 [] [] [] (by simp) ?_ (evr_mV2 T S A) fun k hk => ?_
      · simp [st_mV2, hbs, St.lowers, St.lower, stLe, leEnv, leObs, obLe, injB, pinC, AV.leC, AV.leCs, PV.leC, PV.Le_v, St.get, St.obj, look, rho, isNew, keptC, renH, Mode.ok, Mode.isZ, PV.isVal, PV.isNilSl, List.all_nil, List.all_cons, List.any_nil, List.any_cons, List.map_nil, List.map_cons, PV.Le_self]
      · obtain ⟨hk, hall2⟩ := hk
        have ek : IntKind.i64.wrap ((k : Int) + 1) = ((k + 1 : Nat) : Int) := wrap_in (by omega) (by omega)
        simp only [VC.holds_split, VC.holds_need, VC.holds_doneP, VC.holds_done, VC.holds_either, VC.holds_call, VC.holds_callE, VC.holds_lend, VC.holds_stop, VC.holds_fail, decide_eq_true_eq, decide_eq_false_iff_not, Int.toNat_natCast]
        have bad : k < T.length → buB T k = false → (decide (T.length = 7) && vbB A && allB (buB T) T.length && decide (A.length = 8)) = false := fun h1 h2 => by
          rw [allB_no h1 h2]; simp
        refine ⟨fun h0 => ⟨⟨by omega, by omega⟩, fun h1 => ?_, fun h1 => ⟨c_cfM _ _ _ (by have := hlen k (by omega); omega) (fun j hj => ok_l (vb_ok hv (hmem k (by omega) j hj))), fun h2 => ?_, fun h2 => ?_⟩⟩, fun h0 => ?_⟩
        · have : ¬ (T.getD k []).length ≤ 2 := by omega
          rw [bad (by omega) (by simp only [buB, this]; simp)]; simp
        · rw [bad (by omega) (by simp only [buB]; simp at h2; simp; intro _; exact h2)]; simp
        · refine Again.mk (k + 1) [] [] [] ⟨by omega, fun j hj => ?_⟩ (by omega) ?_
          · by_cases h5 : j = k
            · subst h5
              have : (T.getD j []).length ≤ 2 := by omega
              simp only [buB, this]
              simpa using h2
            · exact hall2 j (by omega)
          · simp [st_mV2, hbs, St.lowers, St.lower, stLe, leEnv, leObs, obLe, injB, pinC, AV.leC, AV.leCs, PV.leC, PV.Le_v, St.get, St.obj, look, rho, isNew, keptC, renH, Mode.ok, Mode.isZ, PV.isVal, PV.isNilSl, List.all_nil, List.all_cons, List.any_nil, List.any_cons, List.map_nil, List.map_cons, PV.Le_self, ek]
        · have : k = T.length := by omega
          subst this
          rw [show allB (buB T) T.length = true from allB_iff.2 hall2, hv, h7]
          have e8 : ((A.length : Int) == 8) = decide (A.length = 8) := by rw [Bool.eq_iff_iff]; simp; omega
          rw [e8]; simp
end Go.Gw
