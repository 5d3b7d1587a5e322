/- SortRows, of the program and of the model; with no condition. -/
import Derived.Test.YtopnhnnfobbocaaDoorSort
import Derived.KernelRfl
namespace Go.Gw
open Go Go.Proofs
set_option linter.unusedSimpArgs false
set_option linter.unusedVariables false
set_option maxRecDepth 100000
def ir30 : Ir :=
  (.seq
  (.reg [] [o 1 (.box 2 (tt 0)),
    o 2 (.alloc [(.slice none 0 0), (.slice none 0 0)])])
  (.seq
  (.seq
  (.reg [4, 5] [o 4 (.load true 2 (tt 1)),
    o 5 (.call 37 [(tt 4)]),
    o 6 (.un .not (tt 5))])
  (.cond (tt 6)
   (.seq
   (.reg [7] [o 7 (.build [(.slice none 0 0), (.slice none 0 0)] []),
     on (.store 2 (tt 2) (tt 7))])
   .ret)
   .skip))
  (.seq
  (.reg [8, 9] [o 8 (.load true 2 (tt 1)),
    o 9 (.call 76 [(tt 8)]),
    o 3 (.alloc [(.slice none 0 0), (.slice none 0 0)]),
    on (.store 2 (tt 3) (tt 9))])
  (.seq
  (.reg [10, 11, 12] [o 10 (.fadr 1 (tt 3)),
    o 11 (.load false 1 (tt 10)),
    o 12 (.call 88 [(tt 11), (.func 89)])])
  (.seq
  (.reg [13] [o 13 (.load true 2 (tt 3)),
    on (.store 2 (tt 2) (tt 13))])
  .ret)))))
def keep30 : List Nat := [0, 1, 2, 3, 6]
def res30 : List RI := [.cell true 2 2]
theorem chk30 : chk Tryd.prog 30 1 keep30 = some (ir30, res30) := by kernel_rfl
def ir32_L1 : Ir :=
  (.seq
  (.seq
  (.reg [39, 40, 41, 42, 43, 44, 45, 46, 47, 48, 49] [o 39 (.mov (tt 6)),
    o 40 (.bin .gtr (tt 39) (ci 0)),
    o 41 (.mov (tt 40)),
    og 42 41 true (.mov (tt 5)),
    og 43 41 true (.fadr 1 (tt 3)),
    og 44 41 true (.load false 1 (tt 43)),
    og 45 41 true (.mov (tt 6)),
    og 46 41 true (.bin .sub (tt 45) (ci 1)),
    og 47 41 true (.idx 1 (tt 44) (tt 46)),
    og 48 41 true (.load false 1 (tt 47)),
    og 49 41 true (.call 93 [(tt 42), (tt 48)]),
    o 50 (.pick (tt 41) (tt 49) (cb false))])
  (.cond (tt 50)
   .skip
   (.exit 2)))
  (.seq
  (.block 3
   (.seq
   (.dreg [53, 54, 55, 56, 57, 58, 59, 60, 61, 62] [0, 1, 0, 0, 8, 0, 32, 120, 248, 511, 1023] [(1, 1054), (4, 1057), (8, 1061)] [o 53 (.fadr 1 (tt 3)),
     o 54 (.load false 1 (tt 53)),
     o 55 (.mov (tt 6)),
     o 56 (.fadr 1 (tt 3)),
     o 57 (.load false 1 (tt 56)),
     o 58 (.mov (tt 6)),
     o 59 (.bin .sub (tt 58) (ci 1)),
     o 60 (.idx 1 (tt 57) (tt 59)),
     o 61 (.load false 1 (tt 60)),
     o 62 (.idx 1 (tt 54) (tt 55)),
     on (.store 1 (tt 62) (tt 61))])
   (.reg [63, 64, 65, 66, 67, 68] [o 63 (.fadr 1 (tt 3)),
     o 64 (.load false 1 (tt 63)),
     o 65 (.mov (tt 6)),
     o 66 (.bin .sub (tt 65) (ci 1)),
     o 67 (.mov (tt 5)),
     o 68 (.idx 1 (tt 64) (tt 66)),
     on (.store 1 (tt 68) (tt 67))])))
  (.reg [51, 52] [o 51 (.mov (tt 6)),
    o 52 (.bin .sub (tt 51) (ci 1)),
    o 6 (.mov (tt 52))])))
def ir32_T2 : Ir :=
  (.reg [21, 22] [o 21 (.mov (tt 4)),
    o 22 (.bin .add (tt 21) (ci 1)),
    o 4 (.mov (tt 22))])
def ir32_C1 : Ir :=
  (.seq
   (.reg [29, 30, 31, 32, 33, 34] [o 29 (.fadr 1 (tt 3)),
     o 30 (.load false 1 (tt 29)),
     o 31 (.mov (tt 5)),
     o 32 (.mkSl 1 1 [(.slice none 0 0)] [(0, (tt 31))]),
     o 33 (.app 1 24 false (tt 30) (tt 32)),
     o 34 (.fadr 1 (tt 3)),
     on (.store 1 (tt 34) (tt 33))])
   (.seq
   (.reg [35, 36, 37, 38] [o 35 (.fadr 1 (tt 3)),
     o 36 (.load false 1 (tt 35)),
     o 37 (.len (tt 36)),
     o 38 (.bin .sub (tt 37) (ci 1)),
     o 6 (.mov (tt 38))])
   (.block 2
    (.loop ir32_L1))))
def ir32_L3 : Ir :=
  (.seq
  (.seq
  (.reg [16, 17, 18, 19] [o 16 (.mov (tt 4)),
    o 17 (.fadr 1 (tt 1)),
    o 18 (.load false 1 (tt 17)),
    o 19 (.len (tt 18)),
    o 20 (.bin .lss (tt 16) (tt 19))])
  (.cond (tt 20)
   .skip
   (.exit 0)))
  (.seq
  (.block 1
   (.seq
   (.reg [23, 24, 25, 26, 27, 28] [o 23 (.fadr 1 (tt 1)),
     o 24 (.load false 1 (tt 23)),
     o 25 (.mov (tt 4)),
     o 26 (.idx 1 (tt 24) (tt 25)),
     o 27 (.load false 1 (tt 26)),
     o 28 (.call 92 [(tt 27)]),
     o 5 (.mov (tt 28))])
   ir32_C1))
  ir32_T2))
def ir32_T4 : Ir :=
  (.seq
  (.reg [69] [o 69 (.load true 2 (tt 3)),
    on (.store 2 (tt 2) (tt 69))])
  .ret)
def ir32 : Ir :=
  (.seq
  (.reg [] [o 1 (.box 2 (tt 0)),
    o 2 (.alloc [(.slice none 0 0), (.slice none 0 0)])])
  (.seq
  (.seq
  (.reg [7, 8] [o 7 (.load true 2 (tt 1)),
    o 8 (.call 33 [(tt 7)]),
    o 9 (.un .not (tt 8))])
  (.cond (tt 9)
   (.seq
   (.reg [10] [o 10 (.build [(.slice none 0 0), (.slice none 0 0)] []),
     on (.store 2 (tt 2) (tt 10))])
   .ret)
   .skip))
  (.seq
  (.reg [11, 12, 13, 14, 15] [o 11 (.mkSl 1 0 [(.string ⟨#[]⟩)] []),
    o 12 (.fadr 0 (tt 1)),
    o 13 (.load false 1 (tt 12)),
    o 14 (.app 1 16 true (tt 11) (tt 13)),
    o 15 (.build [(.slice none 0 0), (.slice none 0 0)] [(0, 1, (tt 14))]),
    o 3 (.alloc [(.slice none 0 0), (.slice none 0 0)]),
    on (.store 2 (tt 3) (tt 15))])
  (.seq
  (.seq
  (.reg [] [o 4 (.mov (ci 0))])
  (.block 0
   (.loop ir32_L3)))
  ir32_T4))))
def keep32 : List Nat := [0, 1, 2, 3, 4, 5, 6, 9, 20, 50]
def res32 : List RI := [.cell true 2 2]
theorem chk32 : chk Tryd.prog 32 1 keep32 = some (ir32, res32) := by kernel_rfl

def in_imSR (n : Nat) (f : Nat → ByteArray) (m : Nat) (w : Nat → Nat) (h : Nat → Nat → Int) := (G0, res30, ([] : List (Nat × Ob)), [Item.ir ir30], start [TA false false n f m w h] [])
theorem ev_imSR : ∀ (n : Nat) (f : Nat → ByteArray) (m : Nat) (w : Nat → Nat) (h : Nat → Nat → Int), ev G0 res30 [] (3000 : Nat) (Or.call [] (AB (tableB n f m w h)) [] (Or.nil.split (Or.call [] taR (taH n f m w h) (Or.call [(2009 : Nat)] (AV.tp []) [((0 : Nat), Ob.row Mode.u false (1 : Nat) m (RR (wL (srtA m w h)) (hL (srtA m w h))) [])] Or.nil)))) [Item.ir ir30] (start [TA false false n f m w h] []) = VC.call (37 : Nat) [AV.ag [AV.p false (PV.sl false (1 : Nat) n fun (i x : Nat) => PT (f i)), AV.p false (PV.sl false (1 : Nat) m (RR w h))]] [] (AB (tableB n f m w h)) [] (VC.split (!tableB n f m w h) (VC.done (St.mk [((0 : Nat), AV.ag [AV.p false (PV.sl false (1 : Nat) n fun (i x : Nat) => PT (f i)), AV.p false (PV.sl false (1 : Nat) m (RR w h))]), ((1 : Nat), AV.adr (1 : Nat) (0 : Nat)), ((2 : Nat), AV.adr (2 : Nat) (0 : Nat)), ((6 : Nat), AV.p true (PV.v (Value.bool !tableB n f m w h)))] [((1 : Nat), Ob.box [AV.p false (PV.sl false (1 : Nat) n fun (i x : Nat) => PT (f i)), AV.p false (PV.sl false (1 : Nat) m (RR w h))]), ((2 : Nat), Ob.box [AV.p true (PV.v (Value.slice none (0 : Nat) (0 : Nat))), AV.p true (PV.v (Value.slice none (0 : Nat) (0 : Nat)))])])) (VC.call (76 : Nat) [AV.ag [AV.p false (PV.sl false (1 : Nat) n fun (i x : Nat) => PT (f i)), AV.p false (PV.sl false (1 : Nat) m (RR w h))]] [] taR (taH n f m w h) (VC.call (88 : Nat) [AV.own (0 : Nat), AV.cl (89 : Nat) [] []] [((0 : Nat), Ob.row Mode.u false (1 : Nat) m (RR w h) [])] (AV.tp []) [((0 : Nat), Ob.row Mode.u false (1 : Nat) m (RR (wL (srtA m w h)) (hL (srtA m w h))) [])] (VC.done (St.mk [((0 : Nat), AV.ag [AV.p false (PV.sl false (1 : Nat) n fun (i x : Nat) => PT (f i)), AV.p false (PV.sl false (1 : Nat) m (RR w h))]), ((1 : Nat), AV.adr (1 : Nat) (0 : Nat)), ((2 : Nat), AV.adr (2 : Nat) (0 : Nat)), ((6 : Nat), AV.p true (PV.v (Value.bool !tableB n f m w h))), ((3 : Nat), AV.adr (3 : Nat) (0 : Nat))] [((1 : Nat), Ob.box [AV.p false (PV.sl false (1 : Nat) n fun (i x : Nat) => PT (f i)), AV.p false (PV.sl false (1 : Nat) m (RR w h))]), ((2 : Nat), Ob.box [AV.own (1009 : Nat), AV.own (2009 : Nat)]), ((1009 : Nat), Ob.row Mode.u false (1 : Nat) n (TR f) []), ((2009 : Nat), Ob.row Mode.u false (1 : Nat) m (RR (wL (srtA m w h)) (hL (srtA m w h))) []), ((3 : Nat), Ob.box [AV.own (1009 : Nat), AV.own (2009 : Nat)])]))))) := by intros; kernel_rfl
def in_spSR (n : Nat) (f : Nat → ByteArray) (m : Nat) (w : Nat → Nat) (h : Nat → Nat → Int) := (G0, res32, ([] : List (Nat × Ob)), [Item.ir ir32], start [TA false false n f m w h] [])
theorem ev_spSR : ∀ (n : Nat) (f : Nat → ByteArray) (m : Nat) (w : Nat → Nat) (h : Nat → Nat → Int), ev G0 res32 [] (3000 : Nat) (Or.call [] (AB (tableB n f m w h)) [] (Or.nil.split Or.nil)) [Item.ir ir32] (start [TA false false n f m w h] []) = VC.call (33 : Nat) [AV.ag [AV.p false (PV.sl false (1 : Nat) n fun (i x : Nat) => PT (f i)), AV.p false (PV.sl false (1 : Nat) m (RR w h))]] [] (AB (tableB n f m w h)) [] (VC.split (!tableB n f m w h) (VC.done (St.mk [((0 : Nat), AV.ag [AV.p false (PV.sl false (1 : Nat) n fun (i x : Nat) => PT (f i)), AV.p false (PV.sl false (1 : Nat) m (RR w h))]), ((1 : Nat), AV.adr (1 : Nat) (0 : Nat)), ((2 : Nat), AV.adr (2 : Nat) (0 : Nat)), ((9 : Nat), AV.p true (PV.v (Value.bool !tableB n f m w h)))] [((1 : Nat), Ob.box [AV.p false (PV.sl false (1 : Nat) n fun (i x : Nat) => PT (f i)), AV.p false (PV.sl false (1 : Nat) m (RR w h))]), ((2 : Nat), Ob.box [AV.p true (PV.v (Value.slice none (0 : Nat) (0 : Nat))), AV.p true (PV.v (Value.slice none (0 : Nat) (0 : Nat)))])])) (VC.need ((((0 : Nat) + n) * (16 : Nat) ≤ (140737488355328 : Nat) ∧ (↑((0 : Nat) + n) : Int) ≤ (9223372036854775807 : Int)) ∧ allV (1 : Nat) n fun (i x : Nat) => PT (f i)) (VC.loop ir32_L3 [Item.bend (0 : Nat), Item.ir ir32_T4] (St.mk [((0 : Nat), AV.ag [AV.p false (PV.sl false (1 : Nat) n fun (i x : Nat) => PT (f i)), AV.p false (PV.sl false (1 : Nat) m (RR w h))]), ((1 : Nat), AV.adr (1 : Nat) (0 : Nat)), ((2 : Nat), AV.adr (2 : Nat) (0 : Nat)), ((9 : Nat), AV.p true (PV.v (Value.bool !tableB n f m w h))), ((3 : Nat), AV.adr (3 : Nat) (0 : Nat)), ((4 : Nat), AV.p true (PV.v (Value.int IntKind.i64 (0 : Int))))] [((1 : Nat), Ob.box [AV.p false (PV.sl false (1 : Nat) n fun (i x : Nat) => PT (f i)), AV.p false (PV.sl false (1 : Nat) m (RR w h))]), ((2 : Nat), Ob.box [AV.p true (PV.v (Value.slice none (0 : Nat) (0 : Nat))), AV.p true (PV.v (Value.slice none (0 : Nat) (0 : Nat)))]), ((14 : Nat), Ob.row Mode.u true (1 : Nat) ((0 : Nat) + n) (fun (a b : Nat) => if a < (0 : Nat) then setG [] (fun (x j : Nat) => PV.v ([Value.string (ByteArray.mk #[])].getD j undef)) a b else PT (f (a - (0 : Nat)))) []), ((3 : Nat), Ob.box [AV.own (14 : Nat), AV.p true (PV.v (Value.slice none (0 : Nat) (0 : Nat)))])])))) := by intros; kernel_rfl
def st_spSR (n : Nat) (f : Nat → ByteArray) (m : Nat) (w : Nat → Nat) (h : Nat → Nat → Int) (x : Nat × List (List Int)) : St := ⟨[(1, .adr 1 0), (2, .adr 2 0), (3, .adr 3 0), (4, AI x.1)], [(1, .box [TL false n f, RL false m w h]), (2, .box [.p true (.v (.slice none 0 0)), .p true (.v (.slice none 0 0))]), (11, .row .u false 1 n (TR f) []), (3, .box [.own 11, .own 7]), (7, .row .f false 1 x.1 (RR (wL x.2) (hL x.2)) [])]⟩
def r_spSR (n : Nat) (f : Nat → ByteArray) (m : Nat) (w : Nat → Nat) (h : Nat → Nat → Int) (I : Nat × List (List Int) → St → Prop) (x : Nat × List (List Int)) := (G0, res32, ([] : List (Nat × Ob)), [Item.ir ir32_L3, .lend (I x), Item.bend 0, Item.ir ir32_T4], st_spSR n f m w h x)
theorem evr_spSR : ∀ (n : Nat) (f : Nat → ByteArray) (m : Nat) (w : Nat → Nat) (h : Nat → Nat → Int) (I : Nat × List (List Int) → St → Prop) (x : Nat × List (List Int)), ev G0 res32 [] (3000 : Nat) ((Or.call [] (AV.own (0 : Nat)) [((0 : Nat), Ob.row Mode.u false (1 : Nat) (w (↑x.1 : Int).toNat) (fun (i x_1 : Nat) => PI (h (↑x.1 : Int).toNat i)) [])] (Or.stop (3 : Nat))).split Or.nil) [Item.ir ir32_L3, Item.lend (I x), Item.bend (0 : Nat), Item.ir ir32_T4] (st_spSR n f m w h x) = VC.split (decide ((↑x.1 : Int) < (↑m : Int))) (VC.need ((0 : Int) ≤ (↑x.1 : Int) ∧ (↑x.1 : Int).toNat < m) (VC.call (92 : Nat) [AV.p false (PV.sl false (1 : Nat) (w (↑x.1 : Int).toNat) fun (j x_1 : Nat) => PI (h (↑x.1 : Int).toNat j))] [] (AV.own (0 : Nat)) [((0 : Nat), Ob.row Mode.u false (1 : Nat) (w (↑x.1 : Int).toNat) (fun (i x_1 : Nat) => PI (h (↑x.1 : Int).toNat i)) [])] (VC.stop [Item.ir ir32_C1, Item.bend (1 : Nat), Item.ir ir32_T2, Item.lend (I x), Item.bend (0 : Nat), Item.ir ir32_T4] (St.mk [((1 : Nat), AV.adr (1 : Nat) (0 : Nat)), ((2 : Nat), AV.adr (2 : Nat) (0 : Nat)), ((3 : Nat), AV.adr (3 : Nat) (0 : Nat)), ((4 : Nat), AV.p true (PV.v (Value.int IntKind.i64 (↑x.1 : Int)))), ((20 : Nat), AV.p true (PV.v (Value.bool (decide ((↑x.1 : Int) < (↑m : Int)))))), ((5 : Nat), AV.own (1028 : Nat))] [((1 : Nat), Ob.box [AV.p false (PV.sl false (1 : Nat) n fun (i x_1 : Nat) => PT (f i)), AV.p false (PV.sl false (1 : Nat) m (RR w h))]), ((2 : Nat), Ob.box [AV.p true (PV.v (Value.slice none (0 : Nat) (0 : Nat))), AV.p true (PV.v (Value.slice none (0 : Nat) (0 : Nat)))]), ((11 : Nat), Ob.row Mode.u false (1 : Nat) n (TR f) []), ((3 : Nat), Ob.box [AV.own (11 : Nat), AV.own (7 : Nat)]), ((7 : Nat), Ob.row Mode.f false (1 : Nat) x.1 (RR (wL x.2) (hL x.2)) []), ((1028 : Nat), Ob.row Mode.u false (1 : Nat) (w (↑x.1 : Int).toNat) (fun (i x_1 : Nat) => PI (h (↑x.1 : Int).toNat i)) [])])))) (VC.done (St.mk [((1 : Nat), AV.adr (1 : Nat) (0 : Nat)), ((2 : Nat), AV.adr (2 : Nat) (0 : Nat)), ((3 : Nat), AV.adr (3 : Nat) (0 : Nat)), ((4 : Nat), AV.p true (PV.v (Value.int IntKind.i64 (↑x.1 : Int)))), ((20 : Nat), AV.p true (PV.v (Value.bool (decide ((↑x.1 : Int) < (↑m : Int))))))] [((1 : Nat), Ob.box [AV.p false (PV.sl false (1 : Nat) n fun (i x_1 : Nat) => PT (f i)), AV.p false (PV.sl false (1 : Nat) m (RR w h))]), ((2 : Nat), Ob.box [AV.own (11 : Nat), AV.own (7 : Nat)]), ((11 : Nat), Ob.row Mode.u false (1 : Nat) n (TR f) []), ((3 : Nat), Ob.box [AV.own (11 : Nat), AV.own (7 : Nat)]), ((7 : Nat), Ob.row Mode.f false (1 : Nat) x.1 (RR (wL x.2) (hL x.2)) [])])) := by intros; kernel_rfl
abbrev FR (w : Nat) (h : Nat → Int) : AV := .p true (.sl false 1 w fun j _ => PI (h j))
def st_spSR1 (n : Nat) (f : Nat → ByteArray) (m : Nat) (w : Nat → Nat) (h : Nat → Nat → Int) (k : Nat) (S : List (List Int)) (rw : Nat) (rh : Nat → Int) : St := ⟨[(1, .adr 1 0), (2, .adr 2 0), (3, .adr 3 0), (4, AI k), (5, FR rw rh)], [(1, .box [TL false n f, RL false m w h]), (2, .box [.p true (.v (.slice none 0 0)), .p true (.v (.slice none 0 0))]), (11, .row .u false 1 n (TR f) []), (3, .box [.own 11, .own 7]), (7, .row .f false 1 k (RR (wL S) (hL S)) [])]⟩
def r_spSR1 (n : Nat) (f : Nat → ByteArray) (m : Nat) (w : Nat → Nat) (h : Nat → Nat → Int) (k : Nat) (S : List (List Int)) (rw : Nat) (rh : Nat → Int) (I : Nat × List (List Int) → St → Prop) (x : Nat × List (List Int)) := (G0, res32, ([] : List (Nat × Ob)), [Item.ir ir32_C1, Item.bend 1, Item.ir ir32_T2, .lend (I x), Item.bend 0, Item.ir ir32_T4], st_spSR1 n f m w h k S rw rh)
theorem evr_spSR1 : ∀ (n : Nat) (f : Nat → ByteArray) (m : Nat) (w : Nat → Nat) (h : Nat → Nat → Int) (k : Nat) (S : List (List Int)) (rw : Nat) (rh : Nat → Int) (I : Nat × List (List Int) → St → Prop) (x : Nat × List (List Int)), ev G0 res32 [] (3000 : Nat) Or.nil [Item.ir ir32_C1, Item.bend (1 : Nat), Item.ir ir32_T2, Item.lend (I x), Item.bend (0 : Nat), Item.ir ir32_T4] (st_spSR1 n f m w h k S rw rh) = VC.need (((k + (1 : Nat)) * (24 : Nat) ≤ (140737488355328 : Nat) ∧ (↑(k + (1 : Nat)) : Int) ≤ (9223372036854775807 : Int)) ∧ allOne (1 : Nat) (1 : Nat) (setG [((0 : Nat), (0 : Nat), PV.sl false (1 : Nat) rw fun (j x_1 : Nat) => PI (rh j))] fun (x_1 j : Nat) => PV.v ([Value.slice none (0 : Nat) (0 : Nat)].getD j undef))) (VC.loop ir32_L1 [Item.bend (2 : Nat), Item.bend (1 : Nat), Item.ir ir32_T2, Item.lend (I x), Item.bend (0 : Nat), Item.ir ir32_T4] (St.mk [((1 : Nat), AV.adr (1 : Nat) (0 : Nat)), ((2 : Nat), AV.adr (2 : Nat) (0 : Nat)), ((3 : Nat), AV.adr (3 : Nat) (0 : Nat)), ((4 : Nat), AV.p true (PV.v (Value.int IntKind.i64 (↑k : Int)))), ((5 : Nat), AV.p true (PV.sl false (1 : Nat) rw fun (j x_1 : Nat) => PI (rh j))), ((6 : Nat), AV.p true (PV.v (Value.int IntKind.i64 (IntKind.i64.wrap ((↑(k + (1 : Nat)) : Int) - (1 : Int))))))] [((1 : Nat), Ob.box [AV.p false (PV.sl false (1 : Nat) n fun (i x_1 : Nat) => PT (f i)), AV.p false (PV.sl false (1 : Nat) m (RR w h))]), ((2 : Nat), Ob.box [AV.p true (PV.v (Value.slice none (0 : Nat) (0 : Nat))), AV.p true (PV.v (Value.slice none (0 : Nat) (0 : Nat)))]), ((11 : Nat), Ob.row Mode.u false (1 : Nat) n (TR f) []), ((3 : Nat), Ob.box [AV.own (11 : Nat), AV.own (33 : Nat)]), ((33 : Nat), Ob.row Mode.f false (1 : Nat) (k + (1 : Nat)) (fun (a b : Nat) => if a < k then RR (wL S) (hL S) a b else setG [((0 : Nat), (0 : Nat), PV.sl false (1 : Nat) rw fun (j x_1 : Nat) => PI (rh j))] (fun (x_1 j : Nat) => PV.v ([Value.slice none (0 : Nat) (0 : Nat)].getD j undef)) (a - k) b) [])])) := by intros; kernel_rfl
def st_spSR2 (n : Nat) (f : Nat → ByteArray) (m : Nat) (w : Nat → Nat) (h : Nat → Nat → Int) (k : Nat) (T : Nat → List (List Int)) (rw : Nat) (rh : Nat → Int) (j : Nat) : St := ⟨[(1, .adr 1 0), (2, .adr 2 0), (3, .adr 3 0), (4, AI k), (5, FR rw rh), (6, AI j)], [(1, .box [TL false n f, RL false m w h]), (2, .box [.p true (.v (.slice none 0 0)), .p true (.v (.slice none 0 0))]), (11, .row .u false 1 n (TR f) []), (3, .box [.own 11, .own 33]), (33, .row .f false 1 (k + 1) (RR (wL (T j)) (hL (T j))) [])]⟩
def r_spSR2 (n : Nat) (f : Nat → ByteArray) (m : Nat) (w : Nat → Nat) (h : Nat → Nat → Int) (k : Nat) (T : Nat → List (List Int)) (rw : Nat) (rh : Nat → Int) (I : Nat × List (List Int) → St → Prop) (x : Nat × List (List Int)) (J : Nat → St → Prop) (j : Nat) := (G0, res32, ([] : List (Nat × Ob)), [Item.ir ir32_L1, .lend (J j), Item.bend 2, Item.bend 1, Item.ir ir32_T2, .lend (I x), Item.bend 0, Item.ir ir32_T4], st_spSR2 n f m w h k T rw rh j)
theorem evr_spSR2 : ∀ (n : Nat) (f : Nat → ByteArray) (m : Nat) (w : Nat → Nat) (h : Nat → Nat → Int) (k : Nat) (T : Nat → List (List Int)) (rw : Nat) (rh : Nat → Int) (I : Nat × List (List Int) → St → Prop) (x : Nat × List (List Int)) (J : Nat → St → Prop) (j : Nat), ev G0 res32 [] (3000 : Nat) ((Or.call [] (AB (ltL (rowL rw rh (0 : Nat)) (rowL (wL (T j) (IntKind.i64.wrap ((↑j : Int) - (1 : Int))).toNat) (hL (T j) (IntKind.i64.wrap ((↑j : Int) - (1 : Int))).toNat) (0 : Nat)))) [] (Or.nil.split Or.nil).lit).lit.lit.lit.lit.lit.lit.lit.split Or.nil.lit.lit.lit.lit.lit.lit.lit.lit.lit) [Item.ir ir32_L1, Item.lend (J j), Item.bend (2 : Nat), Item.bend (1 : Nat), Item.ir ir32_T2, Item.lend (I x), Item.bend (0 : Nat), Item.ir ir32_T4] (st_spSR2 n f m w h k T rw rh j) = VC.split (decide ((0 : Int) < (↑j : Int))) (VC.need ((0 : Int) ≤ IntKind.i64.wrap ((↑j : Int) - (1 : Int)) ∧ (IntKind.i64.wrap ((↑j : Int) - (1 : Int))).toNat < k + (1 : Nat)) (VC.need ((IntKind.i64.wrap ((↑j : Int) - (1 : Int))).toNat < k + (1 : Nat)) (VC.call (93 : Nat) [AV.p false (PV.sl false (1 : Nat) rw fun (j_1 x_1 : Nat) => PI (rh j_1)), AV.p false (PV.sl false (1 : Nat) (wL (T j) (IntKind.i64.wrap ((↑j : Int) - (1 : Int))).toNat) fun (j_1 x_1 : Nat) => PI (hL (T j) (IntKind.i64.wrap ((↑j : Int) - (1 : Int))).toNat j_1))] [] (AB (ltL (rowL rw rh (0 : Nat)) (rowL (wL (T j) (IntKind.i64.wrap ((↑j : Int) - (1 : Int))).toNat) (hL (T j) (IntKind.i64.wrap ((↑j : Int) - (1 : Int))).toNat) (0 : Nat)))) [] (VC.split (ltL (rowL rw rh (0 : Nat)) (rowL (wL (T j) (IntKind.i64.wrap ((↑j : Int) - (1 : Int))).toNat) (hL (T j) (IntKind.i64.wrap ((↑j : Int) - (1 : Int))).toNat) (0 : Nat))) (VC.need ((0 : Int) ≤ IntKind.i64.wrap ((↑j : Int) - (1 : Int)) ∧ (IntKind.i64.wrap ((↑j : Int) - (1 : Int))).toNat < k + (1 : Nat)) (VC.need ((IntKind.i64.wrap ((↑j : Int) - (1 : Int))).toNat < k + (1 : Nat)) (VC.need ((0 : Int) ≤ (↑j : Int) ∧ (↑j : Int).toNat < k + (1 : Nat)) (VC.need ((↑j : Int).toNat < k + (1 : Nat)) (VC.need ((0 : Int) ≤ IntKind.i64.wrap ((↑j : Int) - (1 : Int)) ∧ (IntKind.i64.wrap ((↑j : Int) - (1 : Int))).toNat < k + (1 : Nat)) (VC.need ((IntKind.i64.wrap ((↑j : Int) - (1 : Int))).toNat < k + (1 : Nat)) (VC.lend (J j) (St.mk [((1 : Nat), AV.adr (1 : Nat) (0 : Nat)), ((2 : Nat), AV.adr (2 : Nat) (0 : Nat)), ((3 : Nat), AV.adr (3 : Nat) (0 : Nat)), ((4 : Nat), AV.p true (PV.v (Value.int IntKind.i64 (↑k : Int)))), ((5 : Nat), AV.p true (PV.sl false (1 : Nat) rw fun (j_1 x_1 : Nat) => PI (rh j_1))), ((6 : Nat), AV.p true (PV.v (Value.int IntKind.i64 (IntKind.i64.wrap ((↑j : Int) - (1 : Int)))))), ((50 : Nat), AV.p true (PV.v (Value.bool (ltL (rowL rw rh (0 : Nat)) (rowL (wL (T j) (IntKind.i64.wrap ((↑j : Int) - (1 : Int))).toNat) (hL (T j) (IntKind.i64.wrap ((↑j : Int) - (1 : Int))).toNat) (0 : Nat))))))] [((1 : Nat), Ob.box [AV.p false (PV.sl false (1 : Nat) n fun (i x_1 : Nat) => PT (f i)), AV.p false (PV.sl false (1 : Nat) m (RR w h))]), ((2 : Nat), Ob.box [AV.p true (PV.v (Value.slice none (0 : Nat) (0 : Nat))), AV.p true (PV.v (Value.slice none (0 : Nat) (0 : Nat)))]), ((11 : Nat), Ob.row Mode.u false (1 : Nat) n (TR f) []), ((3 : Nat), Ob.box [AV.own (11 : Nat), AV.own (33 : Nat)]), ((33 : Nat), Ob.row Mode.f false (1 : Nat) (k + (1 : Nat)) (setG [((IntKind.i64.wrap ((↑j : Int) - (1 : Int))).toNat, (0 : Nat), PV.sl false (1 : Nat) rw fun (j_1 x_1 : Nat) => PI (rh j_1))] (setG [((↑j : Int).toNat, (0 : Nat), PV.sl false (1 : Nat) (wL (T j) (IntKind.i64.wrap ((↑j : Int) - (1 : Int))).toNat) fun (j_1 x_1 : Nat) => PI (hL (T j) (IntKind.i64.wrap ((↑j : Int) - (1 : Int))).toNat j_1))] (RR (wL (T j)) (hL (T j))))) [])])))))))) (VC.lend (I x) (St.mk [((1 : Nat), AV.adr (1 : Nat) (0 : Nat)), ((2 : Nat), AV.adr (2 : Nat) (0 : Nat)), ((3 : Nat), AV.adr (3 : Nat) (0 : Nat)), ((4 : Nat), AV.p true (PV.v (Value.int IntKind.i64 (IntKind.i64.wrap ((↑k : Int) + (1 : Int)))))), ((5 : Nat), AV.p true (PV.sl false (1 : Nat) rw fun (j_1 x_1 : Nat) => PI (rh j_1))), ((6 : Nat), AV.p true (PV.v (Value.int IntKind.i64 (↑j : Int)))), ((50 : Nat), AV.p true (PV.v (Value.bool (ltL (rowL rw rh (0 : Nat)) (rowL (wL (T j) (IntKind.i64.wrap ((↑j : Int) - (1 : Int))).toNat) (hL (T j) (IntKind.i64.wrap ((↑j : Int) - (1 : Int))).toNat) (0 : Nat))))))] [((1 : Nat), Ob.box [AV.p false (PV.sl false (1 : Nat) n fun (i x_1 : Nat) => PT (f i)), AV.p false (PV.sl false (1 : Nat) m (RR w h))]), ((2 : Nat), Ob.box [AV.p true (PV.v (Value.slice none (0 : Nat) (0 : Nat))), AV.p true (PV.v (Value.slice none (0 : Nat) (0 : Nat)))]), ((11 : Nat), Ob.row Mode.u false (1 : Nat) n (TR f) []), ((3 : Nat), Ob.box [AV.own (11 : Nat), AV.own (33 : Nat)]), ((33 : Nat), Ob.row Mode.f false (1 : Nat) (k + (1 : Nat)) (RR (wL (T j)) (hL (T j))) [])])))))) (VC.lend (I x) (St.mk [((1 : Nat), AV.adr (1 : Nat) (0 : Nat)), ((2 : Nat), AV.adr (2 : Nat) (0 : Nat)), ((3 : Nat), AV.adr (3 : Nat) (0 : Nat)), ((4 : Nat), AV.p true (PV.v (Value.int IntKind.i64 (IntKind.i64.wrap ((↑k : Int) + (1 : Int)))))), ((5 : Nat), AV.p true (PV.sl false (1 : Nat) rw fun (j_1 x_1 : Nat) => PI (rh j_1))), ((6 : Nat), AV.p true (PV.v (Value.int IntKind.i64 (↑j : Int)))), ((50 : Nat), AV.p true (PV.v (Value.bool false)))] [((1 : Nat), Ob.box [AV.p false (PV.sl false (1 : Nat) n fun (i x_1 : Nat) => PT (f i)), AV.p false (PV.sl false (1 : Nat) m (RR w h))]), ((2 : Nat), Ob.box [AV.p true (PV.v (Value.slice none (0 : Nat) (0 : Nat))), AV.p true (PV.v (Value.slice none (0 : Nat) (0 : Nat)))]), ((11 : Nat), Ob.row Mode.u false (1 : Nat) n (TR f) []), ((3 : Nat), Ob.box [AV.own (11 : Nat), AV.own (33 : Nat)]), ((33 : Nat), Ob.row Mode.f false (1 : Nat) (k + (1 : Nat)) (RR (wL (T j)) (hL (T j))) [])])) := by intros; kernel_rfl
/-! ### insertion -/
def insT (S : List (List Int)) (r : List Int) (j : Nat) : List (List Int) := S.take j ++ r :: S.drop j
theorem rowL_hL (S : List (List Int)) (i : Nat) : rowL (wL S i) (hL S i) 0 = S.getD i [] := by
  apply List.ext_getElem
  · rw [rowL_len]; rfl
  · intro j h1 h2
    have hj : j < wL S i := by rw [rowL_len] at h1; exact h1
    have := rowL_get (n := wL S i) (f := hL S i) hj
    rw [List.getD_eq_getElem?_getD, List.getElem?_eq_getElem h1] at this
    simp only [Option.getD_some] at this
    rw [this]
    simp only [hL]
    rw [List.getD_eq_getElem?_getD (l := S.getD i []), List.getElem?_eq_getElem h2]
    rfl
theorem insT_get {S : List (List Int)} {r : List Int} {j : Nat} (hj : j ≤ S.length) (i : Nat) : (insT S r j).getD i [] = if i < j then S.getD i [] else if i = j then r else S.getD (i - 1) [] := by
  have hl : (S.take j).length = j := by simp; omega
  simp only [insT, List.getD_eq_getElem?_getD]
  by_cases h1 : i < j
  · rw [List.getElem?_append_left (by omega), List.getElem?_take, if_pos h1, if_pos h1]
  · rw [List.getElem?_append_right (by omega), hl, if_neg h1]
    by_cases h2 : i = j
    · subst h2; simp
    · rw [if_neg h2]
      obtain ⟨d, hd⟩ : ∃ d, i - j = d + 1 := ⟨i - j - 1, by omega⟩
      rw [hd, List.getElem?_cons_succ, List.getElem?_drop, show j + d = i - 1 by omega]
theorem insT_len {S : List (List Int)} {r : List Int} {j : Nat} (hj : j ≤ S.length) : (insT S r j).length = S.length + 1 := by
  simp [insT]; omega
theorem insT_perm (S : List (List Int)) (r : List Int) (j : Nat) : (insT S r j).Perm (r :: S) := by
  unfold insT
  refine List.perm_middle.trans ?_
  rw [List.take_append_drop]
theorem insT_sorted {lt : List Int → List Int → Bool} (hO : Go.Sort.SWO lt) {S : List (List Int)} {r : List Int} {j : Nat} (hs : S.Pairwise fun x y => lt y x = false) (hj : j ≤ S.length) (h1 : ∀ i, j ≤ i → i < S.length → lt r (S.getD i []) = true)
    (h2 : j = 0 ∨ lt r (S.getD (j - 1) []) = false) : (insT S r j).Pairwise fun x y => lt y x = false := by
  have get : ∀ i (h : i < S.length), S.getD i [] = S[i] := fun i h => by simp [List.getD_eq_getElem?_getD, h]
  have hsi := List.pairwise_iff_getElem.1 hs
  have hle : ∀ i (h : i < S.length), i < j → lt r S[i] = false := fun i h hij => by
    rcases h2 with h2 | h2
    · omega
    · rw [get _ (by omega)] at h2
      by_cases e : i = j - 1
      · subst e; exact h2
      · exact hO.ntrans _ _ _ h2 (hsi i (j - 1) h (by omega) (by omega))
  have hge : ∀ i (h : i < S.length), j ≤ i → lt S[i] r = false := fun i h hij => by
    have h3 := h1 i hij h
    rw [get _ h] at h3
    cases h4 : lt S[i] r with
    | false => rfl
    | true => have := hO.trans _ _ _ h3 h4; rw [hO.irrefl] at this; cases this
  rw [List.pairwise_iff_getElem]
  intro a b ha hb hab
  have hlen := insT_len (r := r) hj
  have ea : (insT S r j)[a] = (insT S r j).getD a [] := by simp [List.getD_eq_getElem?_getD, ha]
  have eb : (insT S r j)[b] = (insT S r j).getD b [] := by simp [List.getD_eq_getElem?_getD, hb]
  rw [ea, eb, insT_get hj, insT_get hj]
  by_cases c1 : b < j
  · rw [if_pos c1, if_pos (by omega), get a (by omega), get b (by omega)]
    exact hsi a b _ _ hab
  · rw [if_neg c1]
    by_cases c2 : b = j
    · rw [if_pos c2, if_pos (by omega), get a (by omega)]
      exact hle a (by omega) (by omega)
    · rw [if_neg c2, get (b - 1) (by omega)]
      by_cases c3 : a < j
      · rw [if_pos c3, get a (by omega)]
        exact hsi a (b - 1) _ _ (by omega)
      · rw [if_neg c3]
        by_cases c4 : a = j
        · rw [if_pos c4]
          exact hge (b - 1) (by omega) (by omega)
        · rw [if_neg c4, get (a - 1) (by omega)]
          exact hsi (a - 1) (b - 1) _ _ (by omega)
theorem tabL_succ {k : Nat} {w : Nat → Nat} {h : Nat → Nat → Int} : tabL (k + 1) w h = tabL k w h ++ [rowL (w k) (h k) 0] := by simp [tabL, List.range_succ]
/-! ### SortRows -/
def srN (n : Nat) (f : Nat → ByteArray) (m : Nat) (w : Nat → Nat) (h : Nat → Nat → Int) : Nat := if tableB n f m w h then n else 0
def srM (n : Nat) (f : Nat → ByteArray) (m : Nat) (w : Nat → Nat) (h : Nat → Nat → Int) : Nat := if tableB n f m w h then m else 0
abbrev srH (n : Nat) (f : Nat → ByteArray) (m : Nat) (w : Nat → Nat) (h : Nat → Nat → Int) : List (Nat × Ob) := taH (srN n f m w h) f (srM n f m w h) (wL (srtA m w h)) (hL (srtA m w h))
abbrev taF (n : Nat) (f : Nat → ByteArray) (m : Nat) (w : Nat → Nat) (h : Nat → Nat → Int) : List (Nat × Ob) := [(0, .row .u false 1 n (TR f) []), (1, .row .f false 1 m (RR w h) [])]
abbrev srF (n : Nat) (f : Nat → ByteArray) (m : Nat) (w : Nat → Nat) (h : Nat → Nat → Int) : List (Nat × Ob) := taF (srN n f m w h) f (srM n f m w h) (wL (srtA m w h)) (hL (srtA m w h))
structure TaOk (n : Nat) (f : Nat → ByteArray) (m : Nat) (w : Nat → Nat) : Prop where
  hn : n ≤ 1048576
  hf : ∀ i, i < n → (f i).size ≤ 1048576
  hm : m ≤ 1048576
  hw : ∀ i, i < m → w i ≤ 1048576
theorem c_imSR (n : Nat) (f : Nat → ByteArray) (m : Nat) (w : Nat → Nat) (h : Nat → Nat → Int) (ok : TaOk n f m w) : PObj Tryd.prog G0 30 [TA false false n f m w h] [] taR (srH n f m w h) := by
  refine PObj.by chk30 rfl (ev_imSR n f m w h) ?_
  simp only [VC.holds_split, VC.holds_need, VC.holds_doneP, VC.holds_done, VC.holds_either, VC.holds_call, VC.holds_callE, VC.holds_lend, VC.holds_stop, VC.holds_fail, decide_eq_true_eq, decide_eq_false_iff_not]
  refine ⟨c_imTV _ _ _ _ _ _ _ ok.hn ok.hf ok.hm ok.hw, fun h1 => ?_, fun h1 => ⟨c_clA _ _ _ _ _ ok.hn ok.hm ok.hw, c_sortA _ _ _ _ ok.hm ok.hw, ?_⟩⟩
  · have e : tableB n f m w h = false := by simpa using h1
    simp only [srH, srN, srM, e]
    refine ResOk.mk [] [] [0, 1] _ _ ?_ ⟨rfl, rfl⟩
    simp [doneC, resOf, resAV, tup, pinR, PV.Le_self, hbs, St.lowers, St.lower, stLe, leEnv, leObs, obLe, injB, pinC, AV.leC, AV.leCs, PV.leC, PV.Le_v, St.get, St.obj, look, rho, isNew, keptC, renH, Mode.ok, Mode.isZ, PV.isVal, PV.isNilSl, List.all_nil, List.all_cons, List.any_nil, List.any_cons, List.map_nil, List.map_cons, res30]
  · have e : tableB n f m w h = true := by simpa using h1
    simp only [srH, srN, srM, e]
    refine ResOk.mk [] [(0, 1009), (1, 2009)] [] _ _ ?_ ⟨rfl, rfl⟩
    simp [doneC, resOf, resAV, tup, pinR, PV.Le_self, hbs, St.lowers, St.lower, stLe, leEnv, leObs, obLe, injB, pinC, AV.leC, AV.leCs, PV.leC, PV.Le_v, St.get, St.obj, look, rho, isNew, keptC, renH, Mode.ok, Mode.isZ, PV.isVal, PV.isNilSl, List.all_nil, List.all_cons, List.any_nil, List.any_cons, List.map_nil, List.map_cons, res30]
theorem c_spSR (n : Nat) (f : Nat → ByteArray) (m : Nat) (w : Nat → Nat) (h : Nat → Nat → Int) (ok : TaOk n f m w) : PObj Tryd.prog G0 32 [TA false false n f m w h] [] taR (srF n f m w h) := by
  refine PObj.by chk32 rfl (ev_spSR n f m w h) ?_
  simp only [VC.holds_split, VC.holds_need, VC.holds_doneP, VC.holds_done, VC.holds_either, VC.holds_call, VC.holds_callE, VC.holds_lend, VC.holds_stop, VC.holds_fail, decide_eq_true_eq, decide_eq_false_iff_not]
  have hn := ok.hn
  have hm := ok.hm
  refine ⟨c_spTV _ _ _ _ _ _ _ ok.hn ok.hf ok.hm ok.hw, fun h1 => ?_, fun h1 => ⟨⟨by omega, fun _ _ _ _ => rfl⟩, ?_⟩⟩
  · have e : tableB n f m w h = false := by simpa using h1
    simp only [srF, srN, srM, e]
    refine ResOk.mk [] [] [0, 1] _ _ ?_ ⟨rfl, rfl⟩
    simp [doneC, resOf, resAV, tup, pinR, PV.Le_self, hbs, St.lowers, St.lower, stLe, leEnv, leObs, obLe, injB, pinC, AV.leC, AV.leCs, PV.leC, PV.Le_v, St.get, St.obj, look, rho, isNew, keptC, renH, Mode.ok, Mode.isZ, PV.isVal, PV.isNilSl, List.all_nil, List.all_cons, List.any_nil, List.any_cons, List.map_nil, List.map_cons, res32]
  · have e : tableB n f m w h = true := by simpa using h1
    simp only [srF, srN, srM, e, if_true]
    refine loop_by (st_spSR n f m w h) (fun x => x.1 ≤ m ∧ x.2.Perm (tabL x.1 w h) ∧ x.2.Pairwise fun a b => ltL b a = false) (fun x => m - x.1) (0, []) [] [(11, 14)] [7] ⟨Nat.zero_le _, by simp [tabL], List.Pairwise.nil⟩ ?_ (evr_spSR n f m w h) fun x hx => ?_
    · simp [st_spSR, hbs, St.lowers, St.lower, stLe, leEnv, leObs, obLe, injB, pinC, AV.leC, AV.leCs, PV.leC, PV.Le_v, St.get, St.obj, look, rho, isNew, keptC, renH, Mode.ok, Mode.isZ, PV.isVal, PV.isNilSl, List.all_nil, List.all_cons, List.any_nil, List.any_cons, List.map_nil, List.map_cons, PV.Le_self]
    · obtain ⟨k, S⟩ := x
      obtain ⟨hk, hp, hs⟩ := hx
      simp only [] at hk hp hs
      have hSl : S.length = k := by rw [hp.length_eq, tabL_len]
      simp only [VC.holds_split, VC.holds_need, VC.holds_doneP, VC.holds_done, VC.holds_either, VC.holds_call, VC.holds_callE, VC.holds_lend, VC.holds_stop, VC.holds_fail, decide_eq_true_eq, decide_eq_false_iff_not, Int.toNat_natCast]
      refine ⟨fun h2 => ⟨by omega, c_cpI _ _ (ok.hw k (by omega)), ?_⟩, fun h2 => ?_⟩
      · refine M.by [(1028, .f)] [] [] ?_ (evr_spSR1 n f m w h k S (w k) (h k) _ _) ?_
        · simp [st_spSR1, hbs, St.lowers, St.lower, stLe, leEnv, leObs, obLe, injB, pinC, AV.leC, AV.leCs, PV.leC, PV.Le_v, St.get, St.obj, look, rho, isNew, keptC, renH, Mode.ok, Mode.isZ, PV.isVal, PV.isNilSl, List.all_nil, List.all_cons, List.any_nil, List.any_cons, List.map_nil, List.map_cons, PV.Le_self, Mode.low, St.setOb, ins]
        · simp only [VC.holds_split, VC.holds_need, VC.holds_doneP, VC.holds_done, VC.holds_either, VC.holds_call, VC.holds_callE, VC.holds_lend, VC.holds_stop, VC.holds_fail, decide_eq_true_eq, decide_eq_false_iff_not]
          refine ⟨⟨by omega, ?_⟩, ?_⟩
          · intro i j hi hj
            obtain rfl : i = 0 := by omega
            obtain rfl : j = 0 := by omega
            rfl
          · let r := rowL (w k) (h k) 0
            let T : Nat → List (List Int) := fun j => insT S r j
            refine loop_by (st_spSR2 n f m w h k T (w k) (h k)) (fun j => j ≤ k ∧ ∀ i, j ≤ i → i < k → ltL r (S.getD i []) = true) (fun j => j) k [] [] [] ⟨Nat.le_refl _, fun i h3 h4 => by omega⟩ ?_ (fun J j => evr_spSR2 n f m w h k T (w k) (h k) _ _ J j) fun j hj => ?_
            · have e1 : IntKind.i64.wrap (((k + 1 : Nat) : Int) - 1) = (k : Int) := (wrap_in (by omega) (by omega)).trans (by omega)
              have e0 : IntKind.i64.wrap (k : Int) = k := wrap_in (by omega) (by omega)
              simp [st_spSR2, hbs, St.lowers, St.lower, stLe, leEnv, leObs, obLe, injB, pinC, AV.leC, AV.leCs, PV.leC, PV.Le_v, St.get, St.obj, look, rho, isNew, keptC, renH, Mode.ok, Mode.isZ, PV.isVal, PV.isNilSl, List.all_nil, List.all_cons, List.any_nil, List.any_cons, List.map_nil, List.map_cons, PV.Le_self, e0]
              intro i hi
              have h5 := insT_get (S := S) (r := r) (j := k) (by omega)
              by_cases h3 : i < k
              · simp only [h3, if_true]
                have h6 : (T k).getD i [] = S.getD i [] := by simp only [T, h5, h3, if_true]
                exact RR_le (by simp only [wL, h6]) fun j hj => by simp only [hL, h6]
              · obtain rfl : i = k := by omega
                have h6 : (T i).getD i [] = r := by simp only [T, h5, Nat.lt_irrefl, if_false, if_true]
                simp [setG, cellSet]
                exact sl_le (by simp only [wL, h6, r, rowL_len]) fun j hj => by rw [show hL (T i) i j = h i j by simp only [hL, h6, r, rowL_get hj]]; exact .refl _
            · obtain ⟨hj, hall⟩ := hj
              have fin : j ≤ k → (j = 0 ∨ ltL r (S.getD (j - 1) []) = false) → (T j).Perm (tabL (k + 1) w h) ∧ (T j).Pairwise fun a b => ltL b a = false := fun h3 h4 =>
                ⟨by rw [tabL_succ]; exact (insT_perm S r j).trans ((hp.cons r).trans (List.perm_append_singleton r _).symm), insT_sorted lt_swo hs (by omega) (fun i h5 h6 => hall i h5 (by omega)) h4⟩
              have ek : IntKind.i64.wrap ((k : Int) + 1) = ((k + 1 : Nat) : Int) := wrap_in (by omega) (by omega)
              simp only [VC.holds_split, VC.holds_need, VC.holds_doneP, VC.holds_done, VC.holds_either, VC.holds_call, VC.holds_callE, VC.holds_lend, VC.holds_stop, VC.holds_fail, decide_eq_true_eq, decide_eq_false_iff_not, Int.toNat_natCast]
              refine ⟨fun h3 => ?_, fun h3 => ?_⟩
              · have e1 : IntKind.i64.wrap ((j : Int) - 1) = ((j - 1 : Nat) : Int) := (wrap_in (by omega) (by omega)).trans (by omega)
                have hg : (T j).getD (j - 1) [] = S.getD (j - 1) [] := by simp only [T, insT_get (S := S) (r := r) (j := j) (by omega)]; rw [if_pos (by omega)]
                simp only [e1, Int.toNat_natCast, rowL_hL, hg]
                refine ⟨by omega, by omega, ?_, fun h4 => ⟨by omega, by omega, by omega, by omega, by omega, by omega, Again.mk (j - 1) [] [] [] ⟨by omega, fun i h5 h6 => ?_⟩ (by omega) ?_⟩, fun h4 => ?_⟩
                · have := c_less false false (w k) (h k) (wL (T j) (j - 1)) (hL (T j) (j - 1)) (ok.hw k (by omega))
                  rwa [rowL_hL, hg] at this
                · by_cases h7 : i = j - 1
                  · subst h7; exact h4
                  · exact hall i (by omega) h6
                · simp [st_spSR2, hbs, St.lowers, St.lower, stLe, leEnv, leObs, obLe, injB, pinC, AV.leC, AV.leCs, PV.leC, PV.Le_v, St.get, St.obj, look, rho, isNew, keptC, renH, Mode.ok, Mode.isZ, PV.isVal, PV.isNilSl, List.all_nil, List.all_cons, List.any_nil, List.any_cons, List.map_nil, List.map_cons, PV.Le_self]
                  intro i hi
                  have g1 := insT_get (S := S) (r := r) (j := j) (by omega)
                  have g2 := insT_get (S := S) (r := r) (j := j - 1) (by omega)
                  by_cases c1 : i = j - 1
                  · have h6 : (T (j - 1)).getD i [] = r := by simp only [T, g2]; rw [if_neg (by omega), if_pos c1]
                    simp only [setG, cellSet, c1, and_self, if_true, true_and]
                    rw [c1] at h6
                    exact sl_le (by simp only [wL, h6, r, rowL_len]) fun a ha => by rw [show hL (T (j - 1)) (j - 1) a = h k a by simp only [hL, h6, r, rowL_get ha]]; exact .refl _
                  · by_cases c2 : i = j
                    · subst c2
                      have h6 : (T (i - 1)).getD i [] = (T i).getD (i - 1) [] := by simp only [T, g2, hg]; rw [if_neg (by omega), if_neg (by omega)]
                      simp [setG, cellSet, c1]
                      exact sl_le (by simp only [wL, h6]) fun a ha => by rw [show hL (T (i - 1)) i a = hL (T i) (i - 1) a by simp only [hL, h6]]; exact .refl _
                    · have h6 : (T (j - 1)).getD i [] = (T j).getD i [] := by
                        simp only [T, g1, g2]
                        by_cases c3 : i < j - 1
                        · rw [if_pos c3, if_pos (by omega)]
                        · rw [if_neg c3, if_neg c1, if_neg (by omega), if_neg c2]
                      simp [setG, cellSet, c1, c2]
                      exact RR_le (by simp only [wL, h6]) fun a ha => by simp only [hL, h6]
                · obtain ⟨f1, f2⟩ := fin (by omega) (.inr h4)
                  refine Again.mk (k + 1, T j) [] [(7, 33)] [] ⟨by simp only []; omega, f1, f2⟩ (by simp only []; omega) ?_
                  simp [st_spSR, hbs, St.lowers, St.lower, stLe, leEnv, leObs, obLe, injB, pinC, AV.leC, AV.leCs, PV.leC, PV.Le_v, St.get, St.obj, look, rho, isNew, keptC, renH, Mode.ok, Mode.isZ, PV.isVal, PV.isNilSl, List.all_nil, List.all_cons, List.any_nil, List.any_cons, List.map_nil, List.map_cons, PV.Le_self, ek]
              · obtain ⟨f1, f2⟩ := fin (by omega) (.inl (by omega))
                refine Again.mk (k + 1, T j) [] [(7, 33)] [] ⟨by simp only []; omega, f1, f2⟩ (by simp only []; omega) ?_
                simp [st_spSR, hbs, St.lowers, St.lower, stLe, leEnv, leObs, obLe, injB, pinC, AV.leC, AV.leCs, PV.leC, PV.Le_v, St.get, St.obj, look, rho, isNew, keptC, renH, Mode.ok, Mode.isZ, PV.isVal, PV.isNilSl, List.all_nil, List.all_cons, List.any_nil, List.any_cons, List.map_nil, List.map_cons, PV.Le_self, ek]
      · have hkm : k = m := by omega
        subst hkm
        have := srt_eq lt_swo lt_anti hp hs
        subst this
        refine ResOk.mk [] [(0, 11), (1, 7)] [] _ _ ?_ ⟨rfl, rfl⟩
        simp [doneC, resOf, resAV, tup, pinR, PV.Le_self, hbs, St.lowers, St.lower, stLe, leEnv, leObs, obLe, injB, pinC, AV.leC, AV.leCs, PV.leC, PV.Le_v, St.get, St.obj, look, rho, isNew, keptC, renH, Mode.ok, Mode.isZ, PV.isVal, PV.isNilSl, List.all_nil, List.all_cons, List.any_nil, List.any_cons, List.map_nil, List.map_cons, res32]
end Go.Gw
