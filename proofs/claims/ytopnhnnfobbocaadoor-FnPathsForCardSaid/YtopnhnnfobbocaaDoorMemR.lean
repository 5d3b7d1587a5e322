/- Memories: used again and again; with no condition. -/
import Derived.Test.YtopnhnnfobbocaaDoorMemU4
import Derived.KernelRfl
namespace Go.Gw
open Go Go.Proofs
set_option linter.unusedSimpArgs false
set_option linter.unusedVariables false
set_option maxRecDepth 100000
def ir18_L1 : Ir :=
  (.seq
  (.reg [] [o 31 (.bin .lss (tt 30) (tt 29))])
  (.seq
  (.cond (tt 31)
   .skip
   (.exit 0))
  (.seq
  (.block 1
   (.seq
   (.reg [32, 33] [o 32 (.idx 4 (tt 28) (tt 30)),
     o 33 (.load true 4 (tt 32)),
     o 12 (.alloc [(.int .i64 0), (.bool false), (.int .i64 0), (.int .i64 0)]),
     on (.store 4 (tt 12) (tt 33))])
   (.seq
   (.reg [35, 36, 37, 38, 39, 40, 41, 42, 43, 44, 34, 45, 46, 47, 48] [o 35 (.load true 2 (tt 8)),
     o 36 (.fadr 0 (tt 12)),
     o 37 (.load false 1 (tt 36)),
     o 38 (.fadr 1 (tt 12)),
     o 39 (.load false 1 (tt 38)),
     o 40 (.fadr 2 (tt 12)),
     o 41 (.load false 1 (tt 40)),
     o 42 (.fadr 3 (tt 12)),
     o 43 (.load false 1 (tt 42)),
     o 44 (.call 68 [(tt 35), (tt 37), (tt 39), (tt 41), (tt 43)]),
     o 34 (.mov (tt 44)),
     o 45 (.ext (tt 34) 0),
     o 46 (.ext (tt 34) 1),
     o 47 (.ext (tt 34) 2),
     o 48 (.ext (tt 34) 3),
     o 13 (.alloc [(.slice none 0 0), (.slice none 0 0)]),
     on (.store 2 (tt 13) (tt 45)),
     o 14 (.mov (tt 46)),
     o 15 (.mov (tt 47)),
     o 16 (.mov (tt 48))])
   (.seq
   (.seq
   (.reg [49] [o 49 (.mov (tt 16)),
     o 50 (.un .not (tt 49))])
   (.cond (tt 50)
    (.seq
    (.reg [51] [o 51 (.build [(.slice none 0 0), (.slice none 0 0)] []),
      on (.store 2 (tt 4) (tt 51)),
      o 5 (.mov (.const (.slice none 0 0))),
      o 6 (.mov (.const (.slice none 0 0))),
      o 7 (.mov (cb false))])
    .ret)
    .skip))
   (.seq
   (.reg [52] [o 52 (.load true 2 (tt 13)),
     on (.store 2 (tt 8) (tt 52))])
   (.seq
   (.reg [53, 54, 55, 56] [o 53 (.mov (tt 9)),
     o 54 (.mov (tt 14)),
     o 55 (.mkSl 1 1 [(.int .i64 0)] [(0, (tt 54))]),
     o 56 (.app 1 8 true (tt 53) (tt 55)),
     o 9 (.mov (tt 56))])
   (.reg [57, 58, 59] [o 57 (.mov (tt 10)),
     o 58 (.mov (tt 15)),
     o 59 (.app 1 8 true (tt 57) (tt 58)),
     o 10 (.mov (tt 59))])))))))
  (.reg [60] [o 60 (.bin .add (tt 30) (ci 1)),
    o 30 (.mov (tt 60))]))))
def ir18_T2 : Ir :=
  (.seq
  (.reg [61, 62, 63] [o 61 (.load true 2 (tt 8)),
    o 62 (.mov (tt 9)),
    o 63 (.mov (tt 10)),
    on (.store 2 (tt 4) (tt 61)),
    o 5 (.mov (tt 62)),
    o 6 (.mov (tt 63)),
    o 7 (.mov (cb true))])
  .ret)
def ir18 : Ir :=
  (.seq
  (.reg [] [o 2 (.box 2 (tt 0)),
    o 4 (.alloc [(.slice none 0 0), (.slice none 0 0)]),
    o 5 (.mov (.const (.slice none 0 0))),
    o 6 (.mov (.const (.slice none 0 0))),
    o 7 (.mov (cb false))])
  (.seq
  (.seq
  (.reg [17, 18, 19, 20, 21, 22, 23] [o 17 (.load true 2 (tt 2)),
    o 18 (.call 58 [(tt 17)]),
    o 19 (.un .not (tt 18)),
    o 20 (.mov (tt 19)),
    og 21 20 false (.mov (tt 1)),
    og 22 20 false (.len (tt 21)),
    og 23 20 false (.bin .gtr (tt 22) (ci 40)),
    o 24 (.pick (tt 20) (cb true) (tt 23))])
  (.cond (tt 24)
   (.seq
   (.reg [25] [o 25 (.build [(.slice none 0 0), (.slice none 0 0)] []),
     on (.store 2 (tt 4) (tt 25)),
     o 5 (.mov (.const (.slice none 0 0))),
     o 6 (.mov (.const (.slice none 0 0))),
     o 7 (.mov (cb false))])
   .ret)
   .skip))
  (.seq
  (.reg [26, 27] [o 26 (.load true 2 (tt 2)),
    o 27 (.call 67 [(tt 26)]),
    o 8 (.alloc [(.slice none 0 0), (.slice none 0 0)]),
    on (.store 2 (tt 8) (tt 27))])
  (.seq
  (.reg [] [o 9 (.mov (.const (.slice none 0 0))),
    o 10 (.mov (.const (.slice none 0 0)))])
  (.seq
  (.seq
  (.reg [] [o 28 (.mov (tt 1)),
    o 29 (.len (tt 28)),
    o 30 (.mov (ci 0))])
  (.block 0
   (.loop ir18_L1)))
  ir18_T2)))))
def keep18 : List Nat := [0, 1, 2, 4, 5, 6, 7, 8, 9, 10, 12, 13, 14, 15, 16, 24, 28, 29, 30, 31, 50]
def res18 : List RI := [.cell true 2 4, .tmp 5, .tmp 6, .tmp 7]
theorem chk18 : chk Tryd.prog 18 2 keep18 = some (ir18, res18) := by kernel_rfl
def ir163_L1 : Ir :=
  (.seq
  (.seq
  (.reg [31, 32, 33] [o 31 (.mov (tt 11)),
    o 32 (.mov (tt 1)),
    o 33 (.len (tt 32)),
    o 34 (.bin .lss (tt 31) (tt 33))])
  (.cond (tt 34)
   .skip
   (.exit 0)))
  (.seq
  (.block 1
   (.seq
   (.dreg [38, 39, 40, 41, 42, 43, 44, 45, 46, 47, 48, 49, 50, 51, 52, 53, 54, 55, 56, 57, 58, 59, 37, 60, 61, 62, 63] [0, 0, 0, 6, 14, 30, 0, 0, 192, 448, 960, 0, 0, 6144, 14336, 30720, 0, 0, 196608, 458752, 983040, 2097151, 4194303, 8388607, 8388607, 8388607, 8388607, 0, 150994943, 436207615, 1006632959, 2147483647] [(0, 1038), (0, 2038), (5, 1043), (10, 1048), (15, 1053), (20, 1058), (21, 1059), (21, 2059), (21, 3059), (21, 4059), (21, 5059), (21, 6059), (21, 7059), (21, 8059), (27, 12)] [o 38 (.load true 2 (tt 10)),
     o 39 (.mov (tt 1)),
     o 40 (.mov (tt 11)),
     o 41 (.idx 4 (tt 39) (tt 40)),
     o 42 (.fadr 0 (tt 41)),
     o 43 (.load false 1 (tt 42)),
     o 44 (.mov (tt 1)),
     o 45 (.mov (tt 11)),
     o 46 (.idx 4 (tt 44) (tt 45)),
     o 47 (.fadr 1 (tt 46)),
     o 48 (.load false 1 (tt 47)),
     o 49 (.mov (tt 1)),
     o 50 (.mov (tt 11)),
     o 51 (.idx 4 (tt 49) (tt 50)),
     o 52 (.fadr 2 (tt 51)),
     o 53 (.load false 1 (tt 52)),
     o 54 (.mov (tt 1)),
     o 55 (.mov (tt 11)),
     o 56 (.idx 4 (tt 54) (tt 55)),
     o 57 (.fadr 3 (tt 56)),
     o 58 (.load false 1 (tt 57)),
     o 59 (.call 181 [(tt 38), (tt 43), (tt 48), (tt 53), (tt 58)]),
     o 37 (.mov (tt 59)),
     o 60 (.ext (tt 37) 0),
     o 61 (.ext (tt 37) 1),
     o 62 (.ext (tt 37) 2),
     o 63 (.ext (tt 37) 3),
     o 12 (.alloc [(.slice none 0 0), (.slice none 0 0)]),
     on (.store 2 (tt 12) (tt 60)),
     o 13 (.mov (tt 61)),
     o 14 (.mov (tt 62)),
     o 15 (.mov (tt 63))])
   (.seq
   (.seq
   (.reg [64] [o 64 (.mov (tt 15)),
     o 65 (.un .not (tt 64))])
   (.cond (tt 65)
    (.seq
    (.reg [66, 67, 68] [o 66 (.build [(.slice none 0 0), (.slice none 0 0)] []),
      o 67 (.mkSl 1 0 [(.int .i64 0)] []),
      o 68 (.mkSl 1 0 [(.int .i64 0)] []),
      on (.store 2 (tt 4) (tt 66)),
      o 5 (.mov (tt 67)),
      o 6 (.mov (tt 68)),
      o 7 (.mov (cb false))])
    .ret)
    .skip))
   (.seq
   (.reg [69] [o 69 (.load true 2 (tt 12)),
     on (.store 2 (tt 10) (tt 69))])
   (.seq
   (.reg [70, 71, 72, 73] [o 70 (.mov (tt 8)),
     o 71 (.mov (tt 13)),
     o 72 (.mkSl 1 1 [(.int .i64 0)] [(0, (tt 71))]),
     o 73 (.app 1 8 true (tt 70) (tt 72)),
     o 8 (.mov (tt 73))])
   (.reg [74, 75, 76] [o 74 (.mov (tt 9)),
     o 75 (.mov (tt 14)),
     o 76 (.app 1 8 true (tt 74) (tt 75)),
     o 9 (.mov (tt 76))]))))))
  (.reg [35, 36] [o 35 (.mov (tt 11)),
    o 36 (.bin .add (tt 35) (ci 1)),
    o 11 (.mov (tt 36))])))
def ir163_T2 : Ir :=
  (.seq
  (.reg [77, 78, 79] [o 77 (.load true 2 (tt 10)),
    o 78 (.mov (tt 8)),
    o 79 (.mov (tt 9)),
    on (.store 2 (tt 4) (tt 77)),
    o 5 (.mov (tt 78)),
    o 6 (.mov (tt 79)),
    o 7 (.mov (cb true))])
  .ret)
def ir163 : Ir :=
  (.seq
  (.reg [] [o 2 (.box 2 (tt 0)),
    o 4 (.alloc [(.slice none 0 0), (.slice none 0 0)]),
    o 5 (.mov (.const (.slice none 0 0))),
    o 6 (.mov (.const (.slice none 0 0))),
    o 7 (.mov (cb false))])
  (.seq
  (.reg [16] [o 16 (.mkSl 1 0 [(.int .i64 0)] []),
    o 8 (.mov (tt 16))])
  (.seq
  (.reg [17] [o 17 (.mkSl 1 0 [(.int .i64 0)] []),
    o 9 (.mov (tt 17))])
  (.seq
  (.seq
  (.reg [18, 19, 20, 21, 22, 23, 24] [o 18 (.load true 2 (tt 2)),
    o 19 (.call 63 [(tt 18)]),
    o 20 (.un .not (tt 19)),
    o 21 (.mov (tt 20)),
    og 22 21 false (.mov (tt 1)),
    og 23 21 false (.len (tt 22)),
    og 24 21 false (.bin .gtr (tt 23) (ci 40)),
    o 25 (.pick (tt 21) (cb true) (tt 24))])
  (.cond (tt 25)
   (.seq
   (.reg [26, 27, 28] [o 26 (.build [(.slice none 0 0), (.slice none 0 0)] []),
     o 27 (.mov (tt 8)),
     o 28 (.mov (tt 9)),
     on (.store 2 (tt 4) (tt 26)),
     o 5 (.mov (tt 27)),
     o 6 (.mov (tt 28)),
     o 7 (.mov (cb false))])
   .ret)
   .skip))
  (.seq
  (.reg [29, 30] [o 29 (.load true 2 (tt 2)),
    o 30 (.call 180 [(tt 29)]),
    o 10 (.alloc [(.slice none 0 0), (.slice none 0 0)]),
    on (.store 2 (tt 10) (tt 30))])
  (.seq
  (.seq
  (.reg [] [o 11 (.mov (ci 0))])
  (.block 0
   (.loop ir163_L1)))
  ir163_T2))))))
def keep163 : List Nat := [0, 1, 2, 4, 5, 6, 7, 8, 9, 10, 11, 12, 13, 14, 15, 25, 34, 65]
def res163 : List RI := [.cell true 2 4, .tmp 5, .tmp 6, .tmp 7]
theorem chk163 : chk Tryd.prog 163 2 keep163 = some (ir163, res163) := by kernel_rfl

structure Us where
  a : Int
  w : Bool
  v : Int
  l : Int
def Us.col (b : Us) : Nat → PV
  | 0 => PI b.a
  | 1 => .v (.bool b.w)
  | 2 => PI b.v
  | _ => PI b.l
def u0 : Us := ⟨0, false, 0, 0⟩
abbrev UB (U : List Us) : Nat → Nat → PV := fun i c => (U.getD i u0).col c
abbrev UL (nn : Bool) (U : List Us) : AV := .p false (.sl nn 4 U.length (UB U))
/-- The memory after k uses. -/
def rM (T : List (List Blk)) (S : List Blk) (U : List Us) : Nat → List (List Blk) × List Blk
  | 0 => (T, S)
  | k + 1 => (usT (rM T S U k).1 (rM T S U k).2 (U.getD k u0).a (U.getD k u0).w (U.getD k u0).v (U.getD k u0).l, usS (rM T S U k).1 (rM T S U k).2 (U.getD k u0).a (U.getD k u0).w (U.getD k u0).v (U.getD k u0).l)
def rOk (T : List (List Blk)) (S : List Blk) (U : List Us) (k : Nat) : Bool := useOk (rM T S U k).1 (rM T S U k).2 (U.getD k u0).a (U.getD k u0).v (U.getD k u0).l
def rV (T : List (List Blk)) (S : List Blk) (U : List Us) (k : Nat) : Int := usV (rM T S U k).1 (rM T S U k).2 (U.getD k u0).a (U.getD k u0).v (U.getD k u0).l
def rB (T : List (List Blk)) (S : List Blk) (U : List Us) (i : Nat) : Int := litI (pathL (usO (rM T S U (i / 3)).1 (rM T S U (i / 3)).2 (U.getD (i / 3) u0).a).l) (i % 3)
def rAll (T : List (List Blk)) (S : List Blk) (U : List Us) : Bool := memB T S && decide (U.length ≤ 40) && allB (rOk T S U) U.length
def rT (T : List (List Blk)) (S : List Blk) (U : List Us) : List (List Blk) := if rAll T S U then (rM T S U U.length).1 else []
def rS (T : List (List Blk)) (S : List Blk) (U : List Us) : List Blk := if rAll T S U then (rM T S U U.length).2 else []
def rN (T : List (List Blk)) (S : List Blk) (U : List Us) : Nat := if rAll T S U then U.length else 0
abbrev rR (T : List (List Blk)) (S : List Blk) (U : List Us) : AV := .tp [.ag [.own 0, .own 1], .own 2, .own 3, AB (rAll T S U)]
abbrev rH (T : List (List Blk)) (S : List Blk) (U : List Us) : List (Nat × Ob) := [(0, .row .u false 1 (rT T S U).length (BB (rT T S U)) []), (1, .row .u false 3 (rS T S U).length (SB (rS T S U)) []), (2, .row .u false 1 (rN T S U) (fun i _ => PI (rV T S U i)) []), (3, .row .u false 1 (3 * rN T S U) (fun i _ => PI (rB T S U i)) [])]
theorem r_no {T : List (List Blk)} {S : List Blk} {U : List Us} (h : rAll T S U = false) : rT T S U = [] ∧ rS T S U = [] ∧ rN T S U = 0 := by simp [rT, rS, rN, h]
theorem r_yes {T : List (List Blk)} {S : List Blk} {U : List Us} (h : rAll T S U = true) : rT T S U = (rM T S U U.length).1 ∧ rS T S U = (rM T S U U.length).2 ∧ rN T S U = U.length := by simp [rT, rS, rN, h]
theorem rM_bound {T : List (List Blk)} {S : List Blk} {U : List Us} (h : memB T S = true) : ∀ {k}, (∀ j, j < k → rOk T S U j = true) → (rM T S U k).1.length = 7 ∧ (rM T S U k).2.length + (rM T S U k).1.flatten.length ≤ 1000
  | 0, _ => by
    have m := mem_ok h
    refine ⟨m.hT, ?_⟩
    have := m.hn
    rw [List.length_append] at this
    simp only [rM]; omega
  | k + 1, hk => by
    have h1 := hk k (by omega)
    unfold rOk at h1
    have h2 := us_yes (wr := (U.getD k u0).w) h1
    simp only [rM, h2.1, h2.2.1]
    simp only [useOk, Bool.and_eq_true] at h1
    have := use_bound (mem_ok h1.1.1.1) h1.1.1.2 (wr := (U.getD k u0).w) (v := (U.getD k u0).v) (lf := (U.getD k u0).l) rfl
    exact ⟨this.2, this.1⟩
theorem c_smM (T : List (List Blk)) (S : List Blk) (hT : T.length ≤ 1048576) (hS : S.length + T.flatten.length ≤ 1048576) : PRet Tryd.prog G0 63 [ME T S] (AB (memB T S)) := by
  have h := c_smB T S hT hS
  rwa [smB_eq] at h
def in_imR (T : List (List Blk)) (S : List Blk) (U : List Us) := (G0, res18, ([] : List (Nat × Ob)), [Item.ir ir18], start [ME T S, UL false U] [])
theorem ev_imR : ∀ (T : List (List Blk)) (S : List Blk) (U : List Us), ev G0 res18 [] (3000 : Nat) (Or.call [] (AB (memB T S)) [] (Or.nil.lit.lit.lit.lit.split (Or.nil.split (Or.call [] meR (meH T S) Or.nil)).lit.lit.lit)) [Item.ir ir18] (start [ME T S, UL false U] []) = VC.call (58 : Nat) [AV.ag [AV.p false (PV.sl false (1 : Nat) T.length (BB T)), AV.p false (PV.sl false (3 : Nat) S.length (SB S))]] [] (AB (memB T S)) [] (VC.split (!memB T S) (VC.done (St.mk [((0 : Nat), AV.ag [AV.p false (PV.sl false (1 : Nat) T.length (BB T)), AV.p false (PV.sl false (3 : Nat) S.length (SB S))]), ((1 : Nat), AV.p false (PV.sl false (4 : Nat) U.length (UB U))), ((2 : Nat), AV.adr (2 : Nat) (0 : Nat)), ((4 : Nat), AV.adr (4 : Nat) (0 : Nat)), ((5 : Nat), AV.p true (PV.v (Value.slice none (0 : Nat) (0 : Nat)))), ((6 : Nat), AV.p true (PV.v (Value.slice none (0 : Nat) (0 : Nat)))), ((7 : Nat), AV.p true (PV.v (Value.bool false))), ((24 : Nat), AV.p true (PV.v (Value.bool true)))] [((2 : Nat), Ob.box [AV.p false (PV.sl false (1 : Nat) T.length (BB T)), AV.p false (PV.sl false (3 : Nat) S.length (SB S))]), ((4 : Nat), Ob.box [AV.p true (PV.v (Value.slice none (0 : Nat) (0 : Nat))), AV.p true (PV.v (Value.slice none (0 : Nat) (0 : Nat)))])])) (VC.split (decide ((40 : Int) < (↑U.length : Int))) (VC.done (St.mk [((0 : Nat), AV.ag [AV.p false (PV.sl false (1 : Nat) T.length (BB T)), AV.p false (PV.sl false (3 : Nat) S.length (SB S))]), ((1 : Nat), AV.p false (PV.sl false (4 : Nat) U.length (UB U))), ((2 : Nat), AV.adr (2 : Nat) (0 : Nat)), ((4 : Nat), AV.adr (4 : Nat) (0 : Nat)), ((5 : Nat), AV.p true (PV.v (Value.slice none (0 : Nat) (0 : Nat)))), ((6 : Nat), AV.p true (PV.v (Value.slice none (0 : Nat) (0 : Nat)))), ((7 : Nat), AV.p true (PV.v (Value.bool false))), ((24 : Nat), AV.p true (PV.v (Value.bool (decide ((40 : Int) < (↑U.length : Int))))))] [((2 : Nat), Ob.box [AV.p false (PV.sl false (1 : Nat) T.length (BB T)), AV.p false (PV.sl false (3 : Nat) S.length (SB S))]), ((4 : Nat), Ob.box [AV.p true (PV.v (Value.slice none (0 : Nat) (0 : Nat))), AV.p true (PV.v (Value.slice none (0 : Nat) (0 : Nat)))])])) (VC.call (67 : Nat) [AV.ag [AV.p false (PV.sl false (1 : Nat) T.length (BB T)), AV.p false (PV.sl false (3 : Nat) S.length (SB S))]] [] meR (meH T S) (VC.loop ir18_L1 [Item.bend (0 : Nat), Item.ir ir18_T2] (St.mk [((0 : Nat), AV.ag [AV.p false (PV.sl false (1 : Nat) T.length (BB T)), AV.p false (PV.sl false (3 : Nat) S.length (SB S))]), ((1 : Nat), AV.p false (PV.sl false (4 : Nat) U.length (UB U))), ((2 : Nat), AV.adr (2 : Nat) (0 : Nat)), ((4 : Nat), AV.adr (4 : Nat) (0 : Nat)), ((5 : Nat), AV.p true (PV.v (Value.slice none (0 : Nat) (0 : Nat)))), ((6 : Nat), AV.p true (PV.v (Value.slice none (0 : Nat) (0 : Nat)))), ((7 : Nat), AV.p true (PV.v (Value.bool false))), ((24 : Nat), AV.p true (PV.v (Value.bool (decide ((40 : Int) < (↑U.length : Int)))))), ((8 : Nat), AV.adr (8 : Nat) (0 : Nat)), ((9 : Nat), AV.p true (PV.v (Value.slice none (0 : Nat) (0 : Nat)))), ((10 : Nat), AV.p true (PV.v (Value.slice none (0 : Nat) (0 : Nat)))), ((28 : Nat), AV.p false (PV.sl false (4 : Nat) U.length (UB U))), ((29 : Nat), AV.p true (PV.v (Value.int IntKind.i64 (↑U.length : Int)))), ((30 : Nat), AV.p true (PV.v (Value.int IntKind.i64 (0 : Int))))] [((2 : Nat), Ob.box [AV.p false (PV.sl false (1 : Nat) T.length (BB T)), AV.p false (PV.sl false (3 : Nat) S.length (SB S))]), ((4 : Nat), Ob.box [AV.p true (PV.v (Value.slice none (0 : Nat) (0 : Nat))), AV.p true (PV.v (Value.slice none (0 : Nat) (0 : Nat)))]), ((1027 : Nat), Ob.row Mode.u false (1 : Nat) T.length (BB T) []), ((2027 : Nat), Ob.row Mode.u false (3 : Nat) S.length (SB S) []), ((8 : Nat), Ob.box [AV.own (1027 : Nat), AV.own (2027 : Nat)])]))))) := by intros; kernel_rfl
def st_imR (T : List (List Blk)) (S : List Blk) (U : List Us) (k : Nat) : St := ⟨[(4, .adr 4 0), (5, nilA), (6, nilA), (7, AB false), (8, .adr 8 0), (9, .own 9), (10, .own 10), (28, UL false U), (29, AI U.length), (30, AI k)], [(4, nilB2), (8, .box [.own 1027, .own 2027]), (1027, .row .u false 1 (rM T S U k).1.length (BB (rM T S U k).1) []), (2027, .row .u false 3 (rM T S U k).2.length (SB (rM T S U k).2) []), (9, .row .u false 1 k (fun i _ => PI (rV T S U i)) []), (10, .row .u false 1 (3 * k) (fun i _ => PI (rB T S U i)) [])]⟩
def r_imR (T : List (List Blk)) (S : List Blk) (U : List Us) (I : Nat → St → Prop) (k : Nat) := (G0, res18, ([] : List (Nat × Ob)), [Item.ir ir18_L1, .lend (I k), Item.bend 0, Item.ir ir18_T2], st_imR T S U k)
theorem evr_imR : ∀ (T : List (List Blk)) (S : List Blk) (U : List Us) (I : Nat → St → Prop) (k : Nat), ev G0 res18 [] (3000 : Nat) ((Or.call [] (usR (rM T S U k).1 (rM T S U k).2 (U.getD (↑k : Int).toNat u0).a (U.getD (↑k : Int).toNat u0).v (U.getD (↑k : Int).toNat u0).l) (usH (rM T S U k).1 (rM T S U k).2 (U.getD (↑k : Int).toNat u0).a (U.getD (↑k : Int).toNat u0).w (U.getD (↑k : Int).toNat u0).v (U.getD (↑k : Int).toNat u0).l) (Or.nil.split Or.nil)).split Or.nil) [Item.ir ir18_L1, Item.lend (I k), Item.bend (0 : Nat), Item.ir ir18_T2] (st_imR T S U k) = VC.split (decide ((↑k : Int) < (↑U.length : Int))) (VC.need ((0 : Int) ≤ (↑k : Int) ∧ (↑k : Int).toNat < U.length) (VC.call (68 : Nat) [AV.ag [AV.p false (PV.sl false (1 : Nat) (rM T S U k).1.length (BB (rM T S U k).1)), AV.p false (PV.sl false (3 : Nat) (rM T S U k).2.length (SB (rM T S U k).2))], AV.p true (PV.v (Value.int IntKind.i64 (U.getD (↑k : Int).toNat u0).a)), AV.p true (PV.v (Value.bool (U.getD (↑k : Int).toNat u0).w)), AV.p true (PV.v (Value.int IntKind.i64 (U.getD (↑k : Int).toNat u0).v)), AV.p true (PV.v (Value.int IntKind.i64 (U.getD (↑k : Int).toNat u0).l))] [] (usR (rM T S U k).1 (rM T S U k).2 (U.getD (↑k : Int).toNat u0).a (U.getD (↑k : Int).toNat u0).v (U.getD (↑k : Int).toNat u0).l) (usH (rM T S U k).1 (rM T S U k).2 (U.getD (↑k : Int).toNat u0).a (U.getD (↑k : Int).toNat u0).w (U.getD (↑k : Int).toNat u0).v (U.getD (↑k : Int).toNat u0).l) (VC.split (!useOk (rM T S U k).1 (rM T S U k).2 (U.getD (↑k : Int).toNat u0).a (U.getD (↑k : Int).toNat u0).v (U.getD (↑k : Int).toNat u0).l) (VC.done (St.mk [((4 : Nat), AV.adr (4 : Nat) (0 : Nat)), ((5 : Nat), AV.p true (PV.v (Value.slice none (0 : Nat) (0 : Nat)))), ((6 : Nat), AV.p true (PV.v (Value.slice none (0 : Nat) (0 : Nat)))), ((7 : Nat), AV.p true (PV.v (Value.bool false))), ((8 : Nat), AV.adr (8 : Nat) (0 : Nat)), ((9 : Nat), AV.own (9 : Nat)), ((10 : Nat), AV.own (10 : Nat)), ((28 : Nat), AV.p false (PV.sl false (4 : Nat) U.length (UB U))), ((29 : Nat), AV.p true (PV.v (Value.int IntKind.i64 (↑U.length : Int)))), ((30 : Nat), AV.p true (PV.v (Value.int IntKind.i64 (↑k : Int)))), ((31 : Nat), AV.p true (PV.v (Value.bool (decide ((↑k : Int) < (↑U.length : Int)))))), ((12 : Nat), AV.adr (12 : Nat) (0 : Nat)), ((13 : Nat), AV.adr (13 : Nat) (0 : Nat)), ((14 : Nat), AV.p true (PV.v (Value.int IntKind.i64 (usV (rM T S U k).1 (rM T S U k).2 (U.getD (↑k : Int).toNat u0).a (U.getD (↑k : Int).toNat u0).v (U.getD (↑k : Int).toNat u0).l)))), ((15 : Nat), AV.own (3044 : Nat)), ((16 : Nat), AV.p true (PV.v (Value.bool (useOk (rM T S U k).1 (rM T S U k).2 (U.getD (↑k : Int).toNat u0).a (U.getD (↑k : Int).toNat u0).v (U.getD (↑k : Int).toNat u0).l)))), ((50 : Nat), AV.p true (PV.v (Value.bool !useOk (rM T S U k).1 (rM T S U k).2 (U.getD (↑k : Int).toNat u0).a (U.getD (↑k : Int).toNat u0).v (U.getD (↑k : Int).toNat u0).l)))] [((4 : Nat), Ob.box [AV.p true (PV.v (Value.slice none (0 : Nat) (0 : Nat))), AV.p true (PV.v (Value.slice none (0 : Nat) (0 : Nat)))]), ((8 : Nat), Ob.box [AV.own (1027 : Nat), AV.own (2027 : Nat)]), ((1027 : Nat), Ob.row Mode.u false (1 : Nat) (rM T S U k).1.length (BB (rM T S U k).1) []), ((2027 : Nat), Ob.row Mode.u false (3 : Nat) (rM T S U k).2.length (SB (rM T S U k).2) []), ((9 : Nat), Ob.row Mode.u false (1 : Nat) k (fun (i x : Nat) => PI (rV T S U i)) []), ((10 : Nat), Ob.row Mode.u false (1 : Nat) ((3 : Nat) * k) (fun (i x : Nat) => PI (rB T S U i)) []), ((12 : Nat), Ob.box [AV.p true (PV.v (Value.int IntKind.i64 (U.getD (↑k : Int).toNat u0).a)), AV.p true (PV.v (Value.bool (U.getD (↑k : Int).toNat u0).w)), AV.p true (PV.v (Value.int IntKind.i64 (U.getD (↑k : Int).toNat u0).v)), AV.p true (PV.v (Value.int IntKind.i64 (U.getD (↑k : Int).toNat u0).l))]), ((1044 : Nat), Ob.row Mode.u false (1 : Nat) (usT (rM T S U k).1 (rM T S U k).2 (U.getD (↑k : Int).toNat u0).a (U.getD (↑k : Int).toNat u0).w (U.getD (↑k : Int).toNat u0).v (U.getD (↑k : Int).toNat u0).l).length (BB (usT (rM T S U k).1 (rM T S U k).2 (U.getD (↑k : Int).toNat u0).a (U.getD (↑k : Int).toNat u0).w (U.getD (↑k : Int).toNat u0).v (U.getD (↑k : Int).toNat u0).l)) []), ((2044 : Nat), Ob.row Mode.u false (3 : Nat) (usS (rM T S U k).1 (rM T S U k).2 (U.getD (↑k : Int).toNat u0).a (U.getD (↑k : Int).toNat u0).w (U.getD (↑k : Int).toNat u0).v (U.getD (↑k : Int).toNat u0).l).length (SB (usS (rM T S U k).1 (rM T S U k).2 (U.getD (↑k : Int).toNat u0).a (U.getD (↑k : Int).toNat u0).w (U.getD (↑k : Int).toNat u0).v (U.getD (↑k : Int).toNat u0).l)) []), ((3044 : Nat), Ob.row Mode.u false (1 : Nat) (usN (rM T S U k).1 (rM T S U k).2 (U.getD (↑k : Int).toNat u0).a (U.getD (↑k : Int).toNat u0).v (U.getD (↑k : Int).toNat u0).l) (PA (usO (rM T S U k).1 (rM T S U k).2 (U.getD (↑k : Int).toNat u0).a).l) []), ((13 : Nat), Ob.box [AV.own (1044 : Nat), AV.own (2044 : Nat)])])) (VC.need (((k + (1 : Nat)) * (8 : Nat) ≤ (140737488355328 : Nat) ∧ (↑(k + (1 : Nat)) : Int) ≤ (9223372036854775807 : Int)) ∧ allV (1 : Nat) (1 : Nat) (setG [((0 : Nat), (0 : Nat), PV.v (Value.int IntKind.i64 (usV (rM T S U k).1 (rM T S U k).2 (U.getD (↑k : Int).toNat u0).a (U.getD (↑k : Int).toNat u0).v (U.getD (↑k : Int).toNat u0).l)))] fun (x j : Nat) => PV.v ([Value.int IntKind.i64 (0 : Int)].getD j undef))) (VC.need ((((3 : Nat) * k + usN (rM T S U k).1 (rM T S U k).2 (U.getD (↑k : Int).toNat u0).a (U.getD (↑k : Int).toNat u0).v (U.getD (↑k : Int).toNat u0).l) * (8 : Nat) ≤ (140737488355328 : Nat) ∧ (↑((3 : Nat) * k + usN (rM T S U k).1 (rM T S U k).2 (U.getD (↑k : Int).toNat u0).a (U.getD (↑k : Int).toNat u0).v (U.getD (↑k : Int).toNat u0).l) : Int) ≤ (9223372036854775807 : Int)) ∧ allV (1 : Nat) (usN (rM T S U k).1 (rM T S U k).2 (U.getD (↑k : Int).toNat u0).a (U.getD (↑k : Int).toNat u0).v (U.getD (↑k : Int).toNat u0).l) (PA (usO (rM T S U k).1 (rM T S U k).2 (U.getD (↑k : Int).toNat u0).a).l)) (VC.lend (I k) (St.mk [((4 : Nat), AV.adr (4 : Nat) (0 : Nat)), ((5 : Nat), AV.p true (PV.v (Value.slice none (0 : Nat) (0 : Nat)))), ((6 : Nat), AV.p true (PV.v (Value.slice none (0 : Nat) (0 : Nat)))), ((7 : Nat), AV.p true (PV.v (Value.bool false))), ((8 : Nat), AV.adr (8 : Nat) (0 : Nat)), ((9 : Nat), AV.own (56 : Nat)), ((10 : Nat), AV.own (59 : Nat)), ((28 : Nat), AV.p false (PV.sl false (4 : Nat) U.length (UB U))), ((29 : Nat), AV.p true (PV.v (Value.int IntKind.i64 (↑U.length : Int)))), ((30 : Nat), AV.p true (PV.v (Value.int IntKind.i64 (IntKind.i64.wrap ((↑k : Int) + (1 : Int)))))), ((31 : Nat), AV.p true (PV.v (Value.bool (decide ((↑k : Int) < (↑U.length : Int)))))), ((12 : Nat), AV.adr (12 : Nat) (0 : Nat)), ((13 : Nat), AV.adr (13 : Nat) (0 : Nat)), ((14 : Nat), AV.p true (PV.v (Value.int IntKind.i64 (usV (rM T S U k).1 (rM T S U k).2 (U.getD (↑k : Int).toNat u0).a (U.getD (↑k : Int).toNat u0).v (U.getD (↑k : Int).toNat u0).l)))), ((15 : Nat), AV.own (3044 : Nat)), ((16 : Nat), AV.p true (PV.v (Value.bool (useOk (rM T S U k).1 (rM T S U k).2 (U.getD (↑k : Int).toNat u0).a (U.getD (↑k : Int).toNat u0).v (U.getD (↑k : Int).toNat u0).l)))), ((50 : Nat), AV.p true (PV.v (Value.bool !useOk (rM T S U k).1 (rM T S U k).2 (U.getD (↑k : Int).toNat u0).a (U.getD (↑k : Int).toNat u0).v (U.getD (↑k : Int).toNat u0).l)))] [((4 : Nat), Ob.box [AV.p true (PV.v (Value.slice none (0 : Nat) (0 : Nat))), AV.p true (PV.v (Value.slice none (0 : Nat) (0 : Nat)))]), ((8 : Nat), Ob.box [AV.own (1044 : Nat), AV.own (2044 : Nat)]), ((12 : Nat), Ob.box [AV.p true (PV.v (Value.int IntKind.i64 (U.getD (↑k : Int).toNat u0).a)), AV.p true (PV.v (Value.bool (U.getD (↑k : Int).toNat u0).w)), AV.p true (PV.v (Value.int IntKind.i64 (U.getD (↑k : Int).toNat u0).v)), AV.p true (PV.v (Value.int IntKind.i64 (U.getD (↑k : Int).toNat u0).l))]), ((1044 : Nat), Ob.row Mode.u false (1 : Nat) (usT (rM T S U k).1 (rM T S U k).2 (U.getD (↑k : Int).toNat u0).a (U.getD (↑k : Int).toNat u0).w (U.getD (↑k : Int).toNat u0).v (U.getD (↑k : Int).toNat u0).l).length (BB (usT (rM T S U k).1 (rM T S U k).2 (U.getD (↑k : Int).toNat u0).a (U.getD (↑k : Int).toNat u0).w (U.getD (↑k : Int).toNat u0).v (U.getD (↑k : Int).toNat u0).l)) []), ((2044 : Nat), Ob.row Mode.u false (3 : Nat) (usS (rM T S U k).1 (rM T S U k).2 (U.getD (↑k : Int).toNat u0).a (U.getD (↑k : Int).toNat u0).w (U.getD (↑k : Int).toNat u0).v (U.getD (↑k : Int).toNat u0).l).length (SB (usS (rM T S U k).1 (rM T S U k).2 (U.getD (↑k : Int).toNat u0).a (U.getD (↑k : Int).toNat u0).w (U.getD (↑k : Int).toNat u0).v (U.getD (↑k : Int).toNat u0).l)) []), ((3044 : Nat), Ob.row Mode.u false (1 : Nat) (usN (rM T S U k).1 (rM T S U k).2 (U.getD (↑k : Int).toNat u0).a (U.getD (↑k : Int).toNat u0).v (U.getD (↑k : Int).toNat u0).l) (PA (usO (rM T S U k).1 (rM T S U k).2 (U.getD (↑k : Int).toNat u0).a).l) []), ((13 : Nat), Ob.box [AV.own (1044 : Nat), AV.own (2044 : Nat)]), ((56 : Nat), Ob.row Mode.u false (1 : Nat) (k + (1 : Nat)) (fun (a b : Nat) => if a < k then PI (rV T S U a) else setG [((0 : Nat), (0 : Nat), PV.v (Value.int IntKind.i64 (usV (rM T S U k).1 (rM T S U k).2 (U.getD (↑k : Int).toNat u0).a (U.getD (↑k : Int).toNat u0).v (U.getD (↑k : Int).toNat u0).l)))] (fun (x j : Nat) => PV.v ([Value.int IntKind.i64 (0 : Int)].getD j undef)) (a - k) b) []), ((59 : Nat), Ob.row Mode.u false (1 : Nat) ((3 : Nat) * k + usN (rM T S U k).1 (rM T S U k).2 (U.getD (↑k : Int).toNat u0).a (U.getD (↑k : Int).toNat u0).v (U.getD (↑k : Int).toNat u0).l) (fun (a b : Nat) => if a < (3 : Nat) * k then PI (rB T S U a) else PA (usO (rM T S U k).1 (rM T S U k).2 (U.getD (↑k : Int).toNat u0).a).l (a - (3 : Nat) * k) b) [])]))))))) (VC.done (St.mk [((4 : Nat), AV.adr (4 : Nat) (0 : Nat)), ((5 : Nat), AV.own (9 : Nat)), ((6 : Nat), AV.own (10 : Nat)), ((7 : Nat), AV.p true (PV.v (Value.bool true))), ((8 : Nat), AV.adr (8 : Nat) (0 : Nat)), ((9 : Nat), AV.own (9 : Nat)), ((10 : Nat), AV.own (10 : Nat)), ((28 : Nat), AV.p false (PV.sl false (4 : Nat) U.length (UB U))), ((29 : Nat), AV.p true (PV.v (Value.int IntKind.i64 (↑U.length : Int)))), ((30 : Nat), AV.p true (PV.v (Value.int IntKind.i64 (↑k : Int)))), ((31 : Nat), AV.p true (PV.v (Value.bool (decide ((↑k : Int) < (↑U.length : Int))))))] [((4 : Nat), Ob.box [AV.own (1027 : Nat), AV.own (2027 : Nat)]), ((8 : Nat), Ob.box [AV.own (1027 : Nat), AV.own (2027 : Nat)]), ((1027 : Nat), Ob.row Mode.u false (1 : Nat) (rM T S U k).1.length (BB (rM T S U k).1) []), ((2027 : Nat), Ob.row Mode.u false (3 : Nat) (rM T S U k).2.length (SB (rM T S U k).2) []), ((9 : Nat), Ob.row Mode.u false (1 : Nat) k (fun (i x : Nat) => PI (rV T S U i)) []), ((10 : Nat), Ob.row Mode.u false (1 : Nat) ((3 : Nat) * k) (fun (i x : Nat) => PI (rB T S U i)) [])])) := by intros; kernel_rfl
def in_spR (T : List (List Blk)) (S : List Blk) (U : List Us) := (G0, res163, ([] : List (Nat × Ob)), [Item.ir ir163], start [ME T S, UL false U] [])
theorem ev_spR : ∀ (T : List (List Blk)) (S : List Blk) (U : List Us), ev G0 res163 [] (3000 : Nat) (Or.call [] (AB (memB T S)) [] (Or.nil.lit.lit.lit.lit.split (Or.nil.split (Or.call [] meR (meH T S) Or.nil)).lit.lit.lit)) [Item.ir ir163] (start [ME T S, UL false U] []) = VC.call (63 : Nat) [AV.ag [AV.p false (PV.sl false (1 : Nat) T.length (BB T)), AV.p false (PV.sl false (3 : Nat) S.length (SB S))]] [] (AB (memB T S)) [] (VC.split (!memB T S) (VC.done (St.mk [((0 : Nat), AV.ag [AV.p false (PV.sl false (1 : Nat) T.length (BB T)), AV.p false (PV.sl false (3 : Nat) S.length (SB S))]), ((1 : Nat), AV.p false (PV.sl false (4 : Nat) U.length (UB U))), ((2 : Nat), AV.adr (2 : Nat) (0 : Nat)), ((4 : Nat), AV.adr (4 : Nat) (0 : Nat)), ((5 : Nat), AV.own (16 : Nat)), ((6 : Nat), AV.own (17 : Nat)), ((7 : Nat), AV.p true (PV.v (Value.bool false))), ((8 : Nat), AV.own (16 : Nat)), ((9 : Nat), AV.own (17 : Nat)), ((25 : Nat), AV.p true (PV.v (Value.bool true)))] [((2 : Nat), Ob.box [AV.p false (PV.sl false (1 : Nat) T.length (BB T)), AV.p false (PV.sl false (3 : Nat) S.length (SB S))]), ((4 : Nat), Ob.box [AV.p true (PV.v (Value.slice none (0 : Nat) (0 : Nat))), AV.p true (PV.v (Value.slice none (0 : Nat) (0 : Nat)))]), ((16 : Nat), Ob.row Mode.u true (1 : Nat) (0 : Nat) (setG [] fun (x j : Nat) => PV.v ([Value.int IntKind.i64 (0 : Int)].getD j undef)) []), ((17 : Nat), Ob.row Mode.u true (1 : Nat) (0 : Nat) (setG [] fun (x j : Nat) => PV.v ([Value.int IntKind.i64 (0 : Int)].getD j undef)) [])])) (VC.split (decide ((40 : Int) < (↑U.length : Int))) (VC.done (St.mk [((0 : Nat), AV.ag [AV.p false (PV.sl false (1 : Nat) T.length (BB T)), AV.p false (PV.sl false (3 : Nat) S.length (SB S))]), ((1 : Nat), AV.p false (PV.sl false (4 : Nat) U.length (UB U))), ((2 : Nat), AV.adr (2 : Nat) (0 : Nat)), ((4 : Nat), AV.adr (4 : Nat) (0 : Nat)), ((5 : Nat), AV.own (16 : Nat)), ((6 : Nat), AV.own (17 : Nat)), ((7 : Nat), AV.p true (PV.v (Value.bool false))), ((8 : Nat), AV.own (16 : Nat)), ((9 : Nat), AV.own (17 : Nat)), ((25 : Nat), AV.p true (PV.v (Value.bool (decide ((40 : Int) < (↑U.length : Int))))))] [((2 : Nat), Ob.box [AV.p false (PV.sl false (1 : Nat) T.length (BB T)), AV.p false (PV.sl false (3 : Nat) S.length (SB S))]), ((4 : Nat), Ob.box [AV.p true (PV.v (Value.slice none (0 : Nat) (0 : Nat))), AV.p true (PV.v (Value.slice none (0 : Nat) (0 : Nat)))]), ((16 : Nat), Ob.row Mode.u true (1 : Nat) (0 : Nat) (setG [] fun (x j : Nat) => PV.v ([Value.int IntKind.i64 (0 : Int)].getD j undef)) []), ((17 : Nat), Ob.row Mode.u true (1 : Nat) (0 : Nat) (setG [] fun (x j : Nat) => PV.v ([Value.int IntKind.i64 (0 : Int)].getD j undef)) [])])) (VC.call (180 : Nat) [AV.ag [AV.p false (PV.sl false (1 : Nat) T.length (BB T)), AV.p false (PV.sl false (3 : Nat) S.length (SB S))]] [] meR (meH T S) (VC.loop ir163_L1 [Item.bend (0 : Nat), Item.ir ir163_T2] (St.mk [((0 : Nat), AV.ag [AV.p false (PV.sl false (1 : Nat) T.length (BB T)), AV.p false (PV.sl false (3 : Nat) S.length (SB S))]), ((1 : Nat), AV.p false (PV.sl false (4 : Nat) U.length (UB U))), ((2 : Nat), AV.adr (2 : Nat) (0 : Nat)), ((4 : Nat), AV.adr (4 : Nat) (0 : Nat)), ((5 : Nat), AV.p true (PV.v (Value.slice none (0 : Nat) (0 : Nat)))), ((6 : Nat), AV.p true (PV.v (Value.slice none (0 : Nat) (0 : Nat)))), ((7 : Nat), AV.p true (PV.v (Value.bool false))), ((8 : Nat), AV.own (16 : Nat)), ((9 : Nat), AV.own (17 : Nat)), ((25 : Nat), AV.p true (PV.v (Value.bool (decide ((40 : Int) < (↑U.length : Int)))))), ((10 : Nat), AV.adr (10 : Nat) (0 : Nat)), ((11 : Nat), AV.p true (PV.v (Value.int IntKind.i64 (0 : Int))))] [((2 : Nat), Ob.box [AV.p false (PV.sl false (1 : Nat) T.length (BB T)), AV.p false (PV.sl false (3 : Nat) S.length (SB S))]), ((4 : Nat), Ob.box [AV.p true (PV.v (Value.slice none (0 : Nat) (0 : Nat))), AV.p true (PV.v (Value.slice none (0 : Nat) (0 : Nat)))]), ((16 : Nat), Ob.row Mode.u true (1 : Nat) (0 : Nat) (setG [] fun (x j : Nat) => PV.v ([Value.int IntKind.i64 (0 : Int)].getD j undef)) []), ((17 : Nat), Ob.row Mode.u true (1 : Nat) (0 : Nat) (setG [] fun (x j : Nat) => PV.v ([Value.int IntKind.i64 (0 : Int)].getD j undef)) []), ((1030 : Nat), Ob.row Mode.u false (1 : Nat) T.length (BB T) []), ((2030 : Nat), Ob.row Mode.u false (3 : Nat) S.length (SB S) []), ((10 : Nat), Ob.box [AV.own (1030 : Nat), AV.own (2030 : Nat)])]))))) := by intros; kernel_rfl
def st_spR (T : List (List Blk)) (S : List Blk) (U : List Us) (k : Nat) : St := ⟨[(4, .adr 4 0), (5, nilA), (6, nilA), (7, AB false), (10, .adr 10 0), (8, .own 8), (9, .own 9), (1, UL false U), (11, AI k)], [(4, nilB2), (10, .box [.own 1030, .own 2030]), (1030, .row .u false 1 (rM T S U k).1.length (BB (rM T S U k).1) []), (2030, .row .u false 3 (rM T S U k).2.length (SB (rM T S U k).2) []), (8, .row .u false 1 k (fun i _ => PI (rV T S U i)) []), (9, .row .u false 1 (3 * k) (fun i _ => PI (rB T S U i)) [])]⟩
def r_spR (T : List (List Blk)) (S : List Blk) (U : List Us) (I : Nat → St → Prop) (k : Nat) := (G0, res163, ([] : List (Nat × Ob)), [Item.ir ir163_L1, .lend (I k), Item.bend 0, Item.ir ir163_T2], st_spR T S U k)
theorem evr_spR : ∀ (T : List (List Blk)) (S : List Blk) (U : List Us) (I : Nat → St → Prop) (k : Nat), ev G0 res163 [] (3000 : Nat) ((Or.call [] (usR (rM T S U k).1 (rM T S U k).2 (U.getD (↑k : Int).toNat u0).a (U.getD (↑k : Int).toNat u0).v (U.getD (↑k : Int).toNat u0).l) (usH (rM T S U k).1 (rM T S U k).2 (U.getD (↑k : Int).toNat u0).a (U.getD (↑k : Int).toNat u0).w (U.getD (↑k : Int).toNat u0).v (U.getD (↑k : Int).toNat u0).l) (Or.nil.split Or.nil)).split Or.nil) [Item.ir ir163_L1, Item.lend (I k), Item.bend (0 : Nat), Item.ir ir163_T2] (st_spR T S U k) = VC.split (decide ((↑k : Int) < (↑U.length : Int))) (VC.need ((0 : Int) ≤ (↑k : Int) ∧ (↑k : Int).toNat < U.length) (VC.need ((0 : Int) ≤ (↑k : Int) ∧ (↑k : Int).toNat < U.length) (VC.need ((0 : Int) ≤ (↑k : Int) ∧ (↑k : Int).toNat < U.length) (VC.need ((0 : Int) ≤ (↑k : Int) ∧ (↑k : Int).toNat < U.length) (VC.call (181 : Nat) [AV.ag [AV.p false (PV.sl false (1 : Nat) (rM T S U k).1.length (BB (rM T S U k).1)), AV.p false (PV.sl false (3 : Nat) (rM T S U k).2.length (SB (rM T S U k).2))], AV.p true (PV.v (Value.int IntKind.i64 (U.getD (↑k : Int).toNat u0).a)), AV.p true (PV.v (Value.bool (U.getD (↑k : Int).toNat u0).w)), AV.p true (PV.v (Value.int IntKind.i64 (U.getD (↑k : Int).toNat u0).v)), AV.p true (PV.v (Value.int IntKind.i64 (U.getD (↑k : Int).toNat u0).l))] [] (usR (rM T S U k).1 (rM T S U k).2 (U.getD (↑k : Int).toNat u0).a (U.getD (↑k : Int).toNat u0).v (U.getD (↑k : Int).toNat u0).l) (usH (rM T S U k).1 (rM T S U k).2 (U.getD (↑k : Int).toNat u0).a (U.getD (↑k : Int).toNat u0).w (U.getD (↑k : Int).toNat u0).v (U.getD (↑k : Int).toNat u0).l) (VC.split (!useOk (rM T S U k).1 (rM T S U k).2 (U.getD (↑k : Int).toNat u0).a (U.getD (↑k : Int).toNat u0).v (U.getD (↑k : Int).toNat u0).l) (VC.done (St.mk [((4 : Nat), AV.adr (4 : Nat) (0 : Nat)), ((5 : Nat), AV.own (67 : Nat)), ((6 : Nat), AV.own (68 : Nat)), ((7 : Nat), AV.p true (PV.v (Value.bool false))), ((10 : Nat), AV.adr (10 : Nat) (0 : Nat)), ((8 : Nat), AV.own (8 : Nat)), ((9 : Nat), AV.own (9 : Nat)), ((1 : Nat), AV.p false (PV.sl false (4 : Nat) U.length (UB U))), ((11 : Nat), AV.p true (PV.v (Value.int IntKind.i64 (↑k : Int)))), ((34 : Nat), AV.p true (PV.v (Value.bool (decide ((↑k : Int) < (↑U.length : Int)))))), ((12 : Nat), AV.adr (12 : Nat) (0 : Nat)), ((13 : Nat), AV.p true (PV.v (Value.int IntKind.i64 (usV (rM T S U k).1 (rM T S U k).2 (U.getD (↑k : Int).toNat u0).a (U.getD (↑k : Int).toNat u0).v (U.getD (↑k : Int).toNat u0).l)))), ((14 : Nat), AV.own (3059 : Nat)), ((15 : Nat), AV.p true (PV.v (Value.bool (useOk (rM T S U k).1 (rM T S U k).2 (U.getD (↑k : Int).toNat u0).a (U.getD (↑k : Int).toNat u0).v (U.getD (↑k : Int).toNat u0).l)))), ((65 : Nat), AV.p true (PV.v (Value.bool !useOk (rM T S U k).1 (rM T S U k).2 (U.getD (↑k : Int).toNat u0).a (U.getD (↑k : Int).toNat u0).v (U.getD (↑k : Int).toNat u0).l)))] [((4 : Nat), Ob.box [AV.p true (PV.v (Value.slice none (0 : Nat) (0 : Nat))), AV.p true (PV.v (Value.slice none (0 : Nat) (0 : Nat)))]), ((10 : Nat), Ob.box [AV.own (1030 : Nat), AV.own (2030 : Nat)]), ((1030 : Nat), Ob.row Mode.u false (1 : Nat) (rM T S U k).1.length (BB (rM T S U k).1) []), ((2030 : Nat), Ob.row Mode.u false (3 : Nat) (rM T S U k).2.length (SB (rM T S U k).2) []), ((8 : Nat), Ob.row Mode.u false (1 : Nat) k (fun (i x : Nat) => PI (rV T S U i)) []), ((9 : Nat), Ob.row Mode.u false (1 : Nat) ((3 : Nat) * k) (fun (i x : Nat) => PI (rB T S U i)) []), ((1059 : Nat), Ob.row Mode.u false (1 : Nat) (usT (rM T S U k).1 (rM T S U k).2 (U.getD (↑k : Int).toNat u0).a (U.getD (↑k : Int).toNat u0).w (U.getD (↑k : Int).toNat u0).v (U.getD (↑k : Int).toNat u0).l).length (BB (usT (rM T S U k).1 (rM T S U k).2 (U.getD (↑k : Int).toNat u0).a (U.getD (↑k : Int).toNat u0).w (U.getD (↑k : Int).toNat u0).v (U.getD (↑k : Int).toNat u0).l)) []), ((2059 : Nat), Ob.row Mode.u false (3 : Nat) (usS (rM T S U k).1 (rM T S U k).2 (U.getD (↑k : Int).toNat u0).a (U.getD (↑k : Int).toNat u0).w (U.getD (↑k : Int).toNat u0).v (U.getD (↑k : Int).toNat u0).l).length (SB (usS (rM T S U k).1 (rM T S U k).2 (U.getD (↑k : Int).toNat u0).a (U.getD (↑k : Int).toNat u0).w (U.getD (↑k : Int).toNat u0).v (U.getD (↑k : Int).toNat u0).l)) []), ((3059 : Nat), Ob.row Mode.u false (1 : Nat) (usN (rM T S U k).1 (rM T S U k).2 (U.getD (↑k : Int).toNat u0).a (U.getD (↑k : Int).toNat u0).v (U.getD (↑k : Int).toNat u0).l) (PA (usO (rM T S U k).1 (rM T S U k).2 (U.getD (↑k : Int).toNat u0).a).l) []), ((12 : Nat), Ob.box [AV.own (1059 : Nat), AV.own (2059 : Nat)]), ((67 : Nat), Ob.row Mode.u true (1 : Nat) (0 : Nat) (setG [] fun (x j : Nat) => PV.v ([Value.int IntKind.i64 (0 : Int)].getD j undef)) []), ((68 : Nat), Ob.row Mode.u true (1 : Nat) (0 : Nat) (setG [] fun (x j : Nat) => PV.v ([Value.int IntKind.i64 (0 : Int)].getD j undef)) [])])) (VC.need (((k + (1 : Nat)) * (8 : Nat) ≤ (140737488355328 : Nat) ∧ (↑(k + (1 : Nat)) : Int) ≤ (9223372036854775807 : Int)) ∧ allV (1 : Nat) (1 : Nat) (setG [((0 : Nat), (0 : Nat), PV.v (Value.int IntKind.i64 (usV (rM T S U k).1 (rM T S U k).2 (U.getD (↑k : Int).toNat u0).a (U.getD (↑k : Int).toNat u0).v (U.getD (↑k : Int).toNat u0).l)))] fun (x j : Nat) => PV.v ([Value.int IntKind.i64 (0 : Int)].getD j undef))) (VC.need ((((3 : Nat) * k + usN (rM T S U k).1 (rM T S U k).2 (U.getD (↑k : Int).toNat u0).a (U.getD (↑k : Int).toNat u0).v (U.getD (↑k : Int).toNat u0).l) * (8 : Nat) ≤ (140737488355328 : Nat) ∧ (↑((3 : Nat) * k + usN (rM T S U k).1 (rM T S U k).2 (U.getD (↑k : Int).toNat u0).a (U.getD (↑k : Int).toNat u0).v (U.getD (↑k : Int).toNat u0).l) : Int) ≤ (9223372036854775807 : Int)) ∧ allV (1 : Nat) (usN (rM T S U k).1 (rM T S U k).2 (U.getD (↑k : Int).toNat u0).a (U.getD (↑k : Int).toNat u0).v (U.getD (↑k : Int).toNat u0).l) (PA (usO (rM T S U k).1 (rM T S U k).2 (U.getD (↑k : Int).toNat u0).a).l)) (VC.lend (I k) (St.mk [((4 : Nat), AV.adr (4 : Nat) (0 : Nat)), ((5 : Nat), AV.p true (PV.v (Value.slice none (0 : Nat) (0 : Nat)))), ((6 : Nat), AV.p true (PV.v (Value.slice none (0 : Nat) (0 : Nat)))), ((7 : Nat), AV.p true (PV.v (Value.bool false))), ((10 : Nat), AV.adr (10 : Nat) (0 : Nat)), ((8 : Nat), AV.own (73 : Nat)), ((9 : Nat), AV.own (76 : Nat)), ((1 : Nat), AV.p false (PV.sl false (4 : Nat) U.length (UB U))), ((11 : Nat), AV.p true (PV.v (Value.int IntKind.i64 (IntKind.i64.wrap ((↑k : Int) + (1 : Int)))))), ((34 : Nat), AV.p true (PV.v (Value.bool (decide ((↑k : Int) < (↑U.length : Int)))))), ((12 : Nat), AV.adr (12 : Nat) (0 : Nat)), ((13 : Nat), AV.p true (PV.v (Value.int IntKind.i64 (usV (rM T S U k).1 (rM T S U k).2 (U.getD (↑k : Int).toNat u0).a (U.getD (↑k : Int).toNat u0).v (U.getD (↑k : Int).toNat u0).l)))), ((14 : Nat), AV.own (3059 : Nat)), ((15 : Nat), AV.p true (PV.v (Value.bool (useOk (rM T S U k).1 (rM T S U k).2 (U.getD (↑k : Int).toNat u0).a (U.getD (↑k : Int).toNat u0).v (U.getD (↑k : Int).toNat u0).l)))), ((65 : Nat), AV.p true (PV.v (Value.bool !useOk (rM T S U k).1 (rM T S U k).2 (U.getD (↑k : Int).toNat u0).a (U.getD (↑k : Int).toNat u0).v (U.getD (↑k : Int).toNat u0).l)))] [((4 : Nat), Ob.box [AV.p true (PV.v (Value.slice none (0 : Nat) (0 : Nat))), AV.p true (PV.v (Value.slice none (0 : Nat) (0 : Nat)))]), ((10 : Nat), Ob.box [AV.own (1059 : Nat), AV.own (2059 : Nat)]), ((1059 : Nat), Ob.row Mode.u false (1 : Nat) (usT (rM T S U k).1 (rM T S U k).2 (U.getD (↑k : Int).toNat u0).a (U.getD (↑k : Int).toNat u0).w (U.getD (↑k : Int).toNat u0).v (U.getD (↑k : Int).toNat u0).l).length (BB (usT (rM T S U k).1 (rM T S U k).2 (U.getD (↑k : Int).toNat u0).a (U.getD (↑k : Int).toNat u0).w (U.getD (↑k : Int).toNat u0).v (U.getD (↑k : Int).toNat u0).l)) []), ((2059 : Nat), Ob.row Mode.u false (3 : Nat) (usS (rM T S U k).1 (rM T S U k).2 (U.getD (↑k : Int).toNat u0).a (U.getD (↑k : Int).toNat u0).w (U.getD (↑k : Int).toNat u0).v (U.getD (↑k : Int).toNat u0).l).length (SB (usS (rM T S U k).1 (rM T S U k).2 (U.getD (↑k : Int).toNat u0).a (U.getD (↑k : Int).toNat u0).w (U.getD (↑k : Int).toNat u0).v (U.getD (↑k : Int).toNat u0).l)) []), ((3059 : Nat), Ob.row Mode.u false (1 : Nat) (usN (rM T S U k).1 (rM T S U k).2 (U.getD (↑k : Int).toNat u0).a (U.getD (↑k : Int).toNat u0).v (U.getD (↑k : Int).toNat u0).l) (PA (usO (rM T S U k).1 (rM T S U k).2 (U.getD (↑k : Int).toNat u0).a).l) []), ((12 : Nat), Ob.box [AV.own (1059 : Nat), AV.own (2059 : Nat)]), ((73 : Nat), Ob.row Mode.u false (1 : Nat) (k + (1 : Nat)) (fun (a b : Nat) => if a < k then PI (rV T S U a) else setG [((0 : Nat), (0 : Nat), PV.v (Value.int IntKind.i64 (usV (rM T S U k).1 (rM T S U k).2 (U.getD (↑k : Int).toNat u0).a (U.getD (↑k : Int).toNat u0).v (U.getD (↑k : Int).toNat u0).l)))] (fun (x j : Nat) => PV.v ([Value.int IntKind.i64 (0 : Int)].getD j undef)) (a - k) b) []), ((76 : Nat), Ob.row Mode.u false (1 : Nat) ((3 : Nat) * k + usN (rM T S U k).1 (rM T S U k).2 (U.getD (↑k : Int).toNat u0).a (U.getD (↑k : Int).toNat u0).v (U.getD (↑k : Int).toNat u0).l) (fun (a b : Nat) => if a < (3 : Nat) * k then PI (rB T S U a) else PA (usO (rM T S U k).1 (rM T S U k).2 (U.getD (↑k : Int).toNat u0).a).l (a - (3 : Nat) * k) b) [])])))))))))) (VC.done (St.mk [((4 : Nat), AV.adr (4 : Nat) (0 : Nat)), ((5 : Nat), AV.own (8 : Nat)), ((6 : Nat), AV.own (9 : Nat)), ((7 : Nat), AV.p true (PV.v (Value.bool true))), ((10 : Nat), AV.adr (10 : Nat) (0 : Nat)), ((8 : Nat), AV.own (8 : Nat)), ((9 : Nat), AV.own (9 : Nat)), ((1 : Nat), AV.p false (PV.sl false (4 : Nat) U.length (UB U))), ((11 : Nat), AV.p true (PV.v (Value.int IntKind.i64 (↑k : Int)))), ((34 : Nat), AV.p true (PV.v (Value.bool (decide ((↑k : Int) < (↑U.length : Int))))))] [((4 : Nat), Ob.box [AV.own (1030 : Nat), AV.own (2030 : Nat)]), ((10 : Nat), Ob.box [AV.own (1030 : Nat), AV.own (2030 : Nat)]), ((1030 : Nat), Ob.row Mode.u false (1 : Nat) (rM T S U k).1.length (BB (rM T S U k).1) []), ((2030 : Nat), Ob.row Mode.u false (3 : Nat) (rM T S U k).2.length (SB (rM T S U k).2) []), ((8 : Nat), Ob.row Mode.u false (1 : Nat) k (fun (i x : Nat) => PI (rV T S U i)) []), ((9 : Nat), Ob.row Mode.u false (1 : Nat) ((3 : Nat) * k) (fun (i x : Nat) => PI (rB T S U i)) [])])) := by intros; kernel_rfl
theorem c_imR (T : List (List Blk)) (S : List Blk) (U : List Us) (hT : T.length ≤ 1048576) (hS : S.length + T.flatten.length ≤ 1048576) : PObj Tryd.prog G0 18 [ME T S, UL false U] [] (rR T S U) (rH T S U) := by
  refine PObj.by chk18 rfl (ev_imR T S U) ?_
  simp only [VC.holds_split, VC.holds_need, VC.holds_doneP, VC.holds_done, VC.holds_either, VC.holds_call, VC.holds_callE, VC.holds_lend, VC.holds_stop, VC.holds_fail, decide_eq_true_eq, decide_eq_false_iff_not]
  have none : rAll T S U = false → rR T S U = .tp [.ag [.own 0, .own 1], .own 2, .own 3, AB false] ∧ rH T S U = [(0, .row .u false 1 0 (BB []) []), (1, .row .u false 3 0 (SB []) []), (2, .row .u false 1 0 (fun i _ => PI (rV T S U i)) []), (3, .row .u false 1 0 (fun i _ => PI (rB T S U i)) [])] := fun h => by
    obtain ⟨h1, h2, h3⟩ := r_no h
    simp only [rR, rH, h1, h2, h3, h]
    refine ⟨?_, ?_⟩ <;> first | trivial | rfl
  refine ⟨c_mV T S hT hS, fun h => ?_, fun h1 => ⟨fun h => ?_, fun h2 => ⟨c_cl T S hT hS, ?_⟩⟩⟩
  · obtain ⟨e1, e2⟩ := none (by simp only [rAll, not_t h, Bool.false_and])
    rw [e1, e2]
    refine ResOk.mk [] [] [0, 1, 2, 3] _ _ ?_ ⟨rfl, rfl⟩
    simp [doneC, resOf, resAV, tup, pinR, PV.Le_self, hbs, St.lowers, St.lower, stLe, leEnv, leObs, obLe, injB, pinC, AV.leC, AV.leCs, PV.leC, PV.Le_v, St.get, St.obj, look, rho, isNew, keptC, renH, Mode.ok, Mode.isZ, PV.isVal, PV.isNilSl, List.all_nil, List.all_cons, List.any_nil, List.any_cons, List.map_nil, List.map_cons, res18]
  · have : ¬ U.length ≤ 40 := by omega
    obtain ⟨e1, e2⟩ := none (by simp only [rAll, this, decide_false, Bool.false_and, Bool.and_false])
    rw [e1, e2]
    refine ResOk.mk [] [] [0, 1, 2, 3] _ _ ?_ ⟨rfl, rfl⟩
    simp [doneC, resOf, resAV, tup, pinR, PV.Le_self, hbs, St.lowers, St.lower, stLe, leEnv, leObs, obLe, injB, pinC, AV.leC, AV.leCs, PV.leC, PV.Le_v, St.get, St.obj, look, rho, isNew, keptC, renH, Mode.ok, Mode.isZ, PV.isVal, PV.isNilSl, List.all_nil, List.all_cons, List.any_nil, List.any_cons, List.map_nil, List.map_cons, res18]
  · have hv := not_f h1
    have hU : U.length ≤ 40 := by omega
    refine loop_by (st_imR T S U) (fun k => k ≤ U.length ∧ ∀ j, j < k → rOk T S U j = true) (fun k => U.length - k) 0 [] [] [9, 10] (by simp) ?_ (evr_imR T S U) fun k hk => ?_
    · simp only [st_imR, rM]
      simp [hbs, St.lowers, St.lower, stLe, leEnv, leObs, obLe, injB, pinC, AV.leC, AV.leCs, PV.leC, PV.Le_v, St.get, St.obj, look, rho, isNew, keptC, renH, Mode.ok, Mode.isZ, PV.isVal, PV.isNilSl, List.all_nil, List.all_cons, List.any_nil, List.any_cons, List.map_nil, List.map_cons, PV.Le_self]
    · obtain ⟨hk, hall⟩ := hk
      have ek : IntKind.i64.wrap ((k : Int) + 1) = ((k + 1 : Nat) : Int) := wrap_in (by omega) (by omega)
      obtain ⟨b1, b2⟩ := rM_bound (T := T) (S := S) (U := U) hv hall
      simp only [VC.holds_split, VC.holds_need, VC.holds_doneP, VC.holds_done, VC.holds_either, VC.holds_call, VC.holds_callE, VC.holds_lend, VC.holds_stop, VC.holds_fail, decide_eq_true_eq, decide_eq_false_iff_not, Int.toNat_natCast]
      refine ⟨fun h0 => ?_, fun h0 => ?_⟩
      · have hkU : k < U.length := by omega
        refine ⟨⟨by omega, by omega⟩, c_imMU _ _ _ _ _ _ (Nat.le_trans (Nat.le_of_eq b1) (by decide)) (Nat.le_trans b2 (by decide)), fun h => ?_, fun h => ?_⟩
        · have e : rOk T S U k = false := not_t h
          obtain ⟨e1, e2⟩ := none (by simp only [rAll, allB_no hkU e, Bool.and_false])
          rw [e1, e2]
          refine ResOk.mk [] [] [0, 1, 2, 3] _ _ ?_ ⟨rfl, rfl⟩
          simp [doneC, resOf, resAV, tup, pinR, PV.Le_self, hbs, St.lowers, St.lower, stLe, leEnv, leObs, obLe, injB, pinC, AV.leC, AV.leCs, PV.leC, PV.Le_v, St.get, St.obj, look, rho, isNew, keptC, renH, Mode.ok, Mode.isZ, PV.isVal, PV.isNilSl, List.all_nil, List.all_cons, List.any_nil, List.any_cons, List.map_nil, List.map_cons, res18]
        · have e : rOk T S U k = true := not_f h
          have e' := e
          unfold rOk at e'
          have us := us_yes (wr := (U.getD k u0).w) e'
          have eM : rM T S U (k + 1) = (usT (rM T S U k).1 (rM T S U k).2 (U.getD k u0).a (U.getD k u0).w (U.getD k u0).v (U.getD k u0).l, usS (rM T S U k).1 (rM T S U k).2 (U.getD k u0).a (U.getD k u0).w (U.getD k u0).v (U.getD k u0).l) := rfl
          have eV : rV T S U k = usV (rM T S U k).1 (rM T S U k).2 (U.getD k u0).a (U.getD k u0).v (U.getD k u0).l := rfl
          have eB : ∀ c, c < 3 → rB T S U (3 * k + c) = litI (pathL (usO (rM T S U k).1 (rM T S U k).2 (U.getD k u0).a).l) c := fun c hc => by
            unfold rB
            rw [show (3 * k + c) / 3 = k by omega, show (3 * k + c) % 3 = c by omega]
          have e3 : usN (rM T S U k).1 (rM T S U k).2 (U.getD k u0).a (U.getD k u0).v (U.getD k u0).l = 3 := us.2.2.2
          simp only [e3]
          refine ⟨⟨⟨by omega, by omega⟩, ?_⟩, ⟨⟨by omega, by omega⟩, fun _ _ _ _ => rfl⟩, Again.mk (k + 1) [] [(1027, 1044), (2027, 2044), (9, 56), (10, 59)] [] ⟨by omega, fun j hj => ?_⟩ (by omega) ?_⟩
          · intro i j hi hj
            obtain rfl : i = 0 := by omega
            obtain rfl : j = 0 := by omega
            rfl
          · by_cases h5 : j = k
            · subst h5; exact e
            · exact hall j (by omega)
          · simp only [st_imR, eM, ← eV]
            generalize usT (rM T S U k).1 (rM T S U k).2 (U.getD k u0).a (U.getD k u0).w (U.getD k u0).v (U.getD k u0).l = X at *
            generalize usS (rM T S U k).1 (rM T S U k).2 (U.getD k u0).a (U.getD k u0).w (U.getD k u0).v (U.getD k u0).l = Y at *
            generalize (usO (rM T S U k).1 (rM T S U k).2 (U.getD k u0).a).l = L at *
            generalize rB T S U = fB at *
            generalize hF : rV T S U = fV at *
            simp [hbs, St.lowers, St.lower, stLe, leEnv, leObs, obLe, injB, pinC, AV.leC, AV.leCs, PV.leC, PV.Le_v, St.get, St.obj, look, rho, isNew, keptC, renH, Mode.ok, Mode.isZ, PV.isVal, PV.isNilSl, List.all_nil, List.all_cons, List.any_nil, List.any_cons, List.map_nil, List.map_cons, PV.Le_self, ek, Nat.mul_succ]
            refine ⟨fun i hi => ?_, fun i hi => ?_⟩
            · by_cases h5 : i < k
              · simp [h5]; exact .refl _
              · obtain rfl : i = k := by omega
                simp [setG, cellSet]; exact .refl _
            · by_cases h5 : i < 3 * k
              · simp [h5]; exact .refl _
              · simp only [h5, if_false]
                have := eB (i - 3 * k) (by omega)
                rw [show 3 * k + (i - 3 * k) = i by omega] at this
                rw [this]; exact .refl _
      · have : k = U.length := by omega
        subst this
        have ha : rAll T S U = true := by simp only [rAll, hv, hU, decide_true, Bool.true_and]; exact allB_iff.2 hall
        obtain ⟨r1, r2, r3⟩ := r_yes ha
        simp only [rR, rH, r1, r2, r3, ha]
        refine ResOk.mk [] [(0, 1027), (1, 2027), (2, 9), (3, 10)] [] _ _ ?_ ⟨rfl, rfl⟩
        simp [doneC, resOf, resAV, tup, pinR, PV.Le_self, hbs, St.lowers, St.lower, stLe, leEnv, leObs, obLe, injB, pinC, AV.leC, AV.leCs, PV.leC, PV.Le_v, St.get, St.obj, look, rho, isNew, keptC, renH, Mode.ok, Mode.isZ, PV.isVal, PV.isNilSl, List.all_nil, List.all_cons, List.any_nil, List.any_cons, List.map_nil, List.map_cons, res18]
theorem c_spR (T : List (List Blk)) (S : List Blk) (U : List Us) (hT : T.length ≤ 1048576) (hS : S.length + T.flatten.length ≤ 1048576) : PObj Tryd.prog G0 163 [ME T S, UL false U] [] (rR T S U) (rH T S U) := by
  refine PObj.by chk163 rfl (ev_spR T S U) ?_
  simp only [VC.holds_split, VC.holds_need, VC.holds_doneP, VC.holds_done, VC.holds_either, VC.holds_call, VC.holds_callE, VC.holds_lend, VC.holds_stop, VC.holds_fail, decide_eq_true_eq, decide_eq_false_iff_not]
  have none : rAll T S U = false → rR T S U = .tp [.ag [.own 0, .own 1], .own 2, .own 3, AB false] ∧ rH T S U = [(0, .row .u false 1 0 (BB []) []), (1, .row .u false 3 0 (SB []) []), (2, .row .u false 1 0 (fun i _ => PI (rV T S U i)) []), (3, .row .u false 1 0 (fun i _ => PI (rB T S U i)) [])] := fun h => by
    obtain ⟨h1, h2, h3⟩ := r_no h
    simp only [rR, rH, h1, h2, h3, h]
    refine ⟨?_, ?_⟩ <;> first | trivial | rfl
  refine ⟨c_smM T S hT hS, fun h => ?_, fun h1 => ⟨fun h => ?_, fun h2 => ⟨c_cM T S hT hS, ?_⟩⟩⟩
  · obtain ⟨e1, e2⟩ := none (by simp only [rAll, not_t h, Bool.false_and])
    rw [e1, e2]
    refine ResOk.mk [] [(2, 16), (3, 17)] [0, 1] _ _ ?_ ⟨rfl, rfl⟩
    simp [doneC, resOf, resAV, tup, pinR, PV.Le_self, hbs, St.lowers, St.lower, stLe, leEnv, leObs, obLe, injB, pinC, AV.leC, AV.leCs, PV.leC, PV.Le_v, St.get, St.obj, look, rho, isNew, keptC, renH, Mode.ok, Mode.isZ, PV.isVal, PV.isNilSl, List.all_nil, List.all_cons, List.any_nil, List.any_cons, List.map_nil, List.map_cons, res163]
  · have : ¬ U.length ≤ 40 := by omega
    obtain ⟨e1, e2⟩ := none (by simp only [rAll, this, decide_false, Bool.false_and, Bool.and_false])
    rw [e1, e2]
    refine ResOk.mk [] [(2, 16), (3, 17)] [0, 1] _ _ ?_ ⟨rfl, rfl⟩
    simp [doneC, resOf, resAV, tup, pinR, PV.Le_self, hbs, St.lowers, St.lower, stLe, leEnv, leObs, obLe, injB, pinC, AV.leC, AV.leCs, PV.leC, PV.Le_v, St.get, St.obj, look, rho, isNew, keptC, renH, Mode.ok, Mode.isZ, PV.isVal, PV.isNilSl, List.all_nil, List.all_cons, List.any_nil, List.any_cons, List.map_nil, List.map_cons, res163]
  · have hv := not_f h1
    have hU : U.length ≤ 40 := by omega
    refine loop_by (st_spR T S U) (fun k => k ≤ U.length ∧ ∀ j, j < k → rOk T S U j = true) (fun k => U.length - k) 0 [] [(8, 16), (9, 17)] [] (by simp) ?_ (evr_spR T S U) fun k hk => ?_
    · simp only [st_spR, rM]
      simp [hbs, St.lowers, St.lower, stLe, leEnv, leObs, obLe, injB, pinC, AV.leC, AV.leCs, PV.leC, PV.Le_v, St.get, St.obj, look, rho, isNew, keptC, renH, Mode.ok, Mode.isZ, PV.isVal, PV.isNilSl, List.all_nil, List.all_cons, List.any_nil, List.any_cons, List.map_nil, List.map_cons, PV.Le_self]
    · obtain ⟨hk, hall⟩ := hk
      have ek : IntKind.i64.wrap ((k : Int) + 1) = ((k + 1 : Nat) : Int) := wrap_in (by omega) (by omega)
      obtain ⟨b1, b2⟩ := rM_bound (T := T) (S := S) (U := U) hv hall
      simp only [VC.holds_split, VC.holds_need, VC.holds_doneP, VC.holds_done, VC.holds_either, VC.holds_call, VC.holds_callE, VC.holds_lend, VC.holds_stop, VC.holds_fail, decide_eq_true_eq, decide_eq_false_iff_not, Int.toNat_natCast]
      refine ⟨fun h0 => ?_, fun h0 => ?_⟩
      · have hkU : k < U.length := by omega
        refine ⟨⟨by omega, by omega⟩, ⟨by omega, by omega⟩, ⟨by omega, by omega⟩, ⟨by omega, by omega⟩, c_spMU _ _ _ _ _ _ (Nat.le_trans (Nat.le_of_eq b1) (by decide)) (Nat.le_trans b2 (by decide)), fun h => ?_, fun h => ?_⟩
        · have e : rOk T S U k = false := not_t h
          obtain ⟨e1, e2⟩ := none (by simp only [rAll, allB_no hkU e, Bool.and_false])
          rw [e1, e2]
          refine ResOk.mk [] [(2, 67), (3, 68)] [0, 1] _ _ ?_ ⟨rfl, rfl⟩
          simp [doneC, resOf, resAV, tup, pinR, PV.Le_self, hbs, St.lowers, St.lower, stLe, leEnv, leObs, obLe, injB, pinC, AV.leC, AV.leCs, PV.leC, PV.Le_v, St.get, St.obj, look, rho, isNew, keptC, renH, Mode.ok, Mode.isZ, PV.isVal, PV.isNilSl, List.all_nil, List.all_cons, List.any_nil, List.any_cons, List.map_nil, List.map_cons, res163]
        · have e : rOk T S U k = true := not_f h
          have e' := e
          unfold rOk at e'
          have us := us_yes (wr := (U.getD k u0).w) e'
          have eM : rM T S U (k + 1) = (usT (rM T S U k).1 (rM T S U k).2 (U.getD k u0).a (U.getD k u0).w (U.getD k u0).v (U.getD k u0).l, usS (rM T S U k).1 (rM T S U k).2 (U.getD k u0).a (U.getD k u0).w (U.getD k u0).v (U.getD k u0).l) := rfl
          have eV : rV T S U k = usV (rM T S U k).1 (rM T S U k).2 (U.getD k u0).a (U.getD k u0).v (U.getD k u0).l := rfl
          have eB : ∀ c, c < 3 → rB T S U (3 * k + c) = litI (pathL (usO (rM T S U k).1 (rM T S U k).2 (U.getD k u0).a).l) c := fun c hc => by
            unfold rB
            rw [show (3 * k + c) / 3 = k by omega, show (3 * k + c) % 3 = c by omega]
          have e3 : usN (rM T S U k).1 (rM T S U k).2 (U.getD k u0).a (U.getD k u0).v (U.getD k u0).l = 3 := us.2.2.2
          simp only [e3]
          refine ⟨⟨⟨by omega, by omega⟩, ?_⟩, ⟨⟨by omega, by omega⟩, fun _ _ _ _ => rfl⟩, Again.mk (k + 1) [] [(1030, 1059), (2030, 2059), (8, 73), (9, 76)] [] ⟨by omega, fun j hj => ?_⟩ (by omega) ?_⟩
          · intro i j hi hj
            obtain rfl : i = 0 := by omega
            obtain rfl : j = 0 := by omega
            rfl
          · by_cases h5 : j = k
            · subst h5; exact e
            · exact hall j (by omega)
          · simp only [st_spR, eM, ← eV]
            generalize usT (rM T S U k).1 (rM T S U k).2 (U.getD k u0).a (U.getD k u0).w (U.getD k u0).v (U.getD k u0).l = X at *
            generalize usS (rM T S U k).1 (rM T S U k).2 (U.getD k u0).a (U.getD k u0).w (U.getD k u0).v (U.getD k u0).l = Y at *
            generalize (usO (rM T S U k).1 (rM T S U k).2 (U.getD k u0).a).l = L at *
            generalize rB T S U = fB at *
            generalize hF : rV T S U = fV at *
            simp [hbs, St.lowers, St.lower, stLe, leEnv, leObs, obLe, injB, pinC, AV.leC, AV.leCs, PV.leC, PV.Le_v, St.get, St.obj, look, rho, isNew, keptC, renH, Mode.ok, Mode.isZ, PV.isVal, PV.isNilSl, List.all_nil, List.all_cons, List.any_nil, List.any_cons, List.map_nil, List.map_cons, PV.Le_self, ek, Nat.mul_succ]
            refine ⟨fun i hi => ?_, fun i hi => ?_⟩
            · by_cases h5 : i < k
              · simp [h5]; exact .refl _
              · obtain rfl : i = k := by omega
                simp [setG, cellSet]; exact .refl _
            · by_cases h5 : i < 3 * k
              · simp [h5]; exact .refl _
              · simp only [h5, if_false]
                have := eB (i - 3 * k) (by omega)
                rw [show 3 * k + (i - 3 * k) = i by omega] at this
                rw [this]; exact .refl _
      · have : k = U.length := by omega
        subst this
        have ha : rAll T S U = true := by simp only [rAll, hv, hU, decide_true, Bool.true_and]; exact allB_iff.2 hall
        obtain ⟨r1, r2, r3⟩ := r_yes ha
        simp only [rR, rH, r1, r2, r3, ha]
        refine ResOk.mk [] [(0, 1030), (1, 2030), (2, 8), (3, 9)] [] _ _ ?_ ⟨rfl, rfl⟩
        simp [doneC, resOf, resAV, tup, pinR, PV.Le_self, hbs, St.lowers, St.lower, stLe, leEnv, leObs, obLe, injB, pinC, AV.leC, AV.leCs, PV.leC, PV.Le_v, St.get, St.obj, look, rho, isNew, keptC, renH, Mode.ok, Mode.isZ, PV.isVal, PV.isNilSl, List.all_nil, List.all_cons, List.any_nil, List.any_cons, List.map_nil, List.map_cons, res163]
end Go.Gw
