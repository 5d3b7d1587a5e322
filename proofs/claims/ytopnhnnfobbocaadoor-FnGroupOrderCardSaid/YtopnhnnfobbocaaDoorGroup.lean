/- Rows grouped, by the program; with no condition. -/
import Derived.Test.YtopnhnnfobbocaaDoorGroupFacts
import Derived.Test.YtopnhnnfobbocaaDoorOrder
import Derived.KernelRfl
namespace Go.Gw
open Go Go.Proofs
set_option linter.unusedSimpArgs false
set_option linter.unusedVariables false
set_option maxRecDepth 100000
def ir107 : Ir :=
  (.seq
  (.reg [] [o 6 (.mov (.const (.slice none 0 0))),
    o 7 (.mov (cb false))])
  (.seq
  (.reg [9, 10, 11, 12, 13, 14, 15, 16, 17, 18, 19, 20, 21, 22, 23, 24] [o 9 (.mov (tt 0)),
    o 10 (.mov (tt 1)),
    o 11 (.call 111 [(tt 9), (tt 10)]),
    o 12 (.mov (tt 11)),
    og 13 12 true (.mov (tt 0)),
    og 14 12 true (.mov (tt 2)),
    og 15 12 true (.call 111 [(tt 13), (tt 14)]),
    o 16 (.pick (tt 12) (tt 15) (cb false)),
    o 17 (.mov (tt 16)),
    og 18 17 true (.mov (tt 1)),
    og 19 17 true (.bin .neq (tt 18) (.const (.string ⟨#[99, 111, 117, 110, 116]⟩))),
    o 20 (.pick (tt 17) (tt 19) (cb false)),
    o 21 (.mov (tt 20)),
    og 22 21 true (.mov (tt 1)),
    og 23 21 true (.bin .neq (tt 22) (.const (.string ⟨#[116, 111, 116, 97, 108]⟩))),
    o 24 (.pick (tt 21) (tt 23) (cb false)),
    o 8 (.mov (tt 24))])
  (.seq
  (.reg [25, 26, 27] [o 25 (.mov (tt 1)),
    o 26 (.mkSl 1 3 [(.string ⟨#[]⟩)] [(0, (tt 25)), (1, (.const (.string ⟨#[99, 111, 117, 110, 116]⟩))), (2, (.const (.string ⟨#[116, 111, 116, 97, 108]⟩)))]),
    o 27 (.mov (tt 8)),
    o 6 (.mov (tt 26)),
    o 7 (.mov (tt 27))])
  .ret)))
def keep107 : List Nat := [0, 1, 2, 6, 7, 8]
def res107 : List RI := [.tmp 6, .tmp 7]
theorem chk107 : chk Tryd.prog 107 3 keep107 = some (ir107, res107) := by kernel_rfl
def ir108_L1 : Ir :=
  (.seq
  (.reg [] [o 22 (.bin .lss (tt 21) (tt 20))])
  (.seq
  (.cond (tt 22)
   .skip
   (.exit 2))
  (.seq
  (.block 3
   (.seq
   (.reg [23, 24] [o 23 (.idx 1 (tt 19) (tt 21)),
     o 24 (.load false 1 (tt 23)),
     o 12 (.mov (tt 24))])
   (.reg [25, 26, 27, 28, 29, 30, 31, 32, 33] [o 25 (.mov (tt 10)),
     o 26 (.mov (tt 9)),
     o 27 (.mov (tt 0)),
     o 28 (.mov (tt 12)),
     o 29 (.call 113 [(tt 27), (tt 28)]),
     o 30 (.idx 1 (tt 26) (tt 29)),
     o 31 (.load false 1 (tt 30)),
     o 32 (.mkSl 1 1 [(.int .i64 0)] [(0, (tt 31))]),
     o 33 (.app 1 8 true (tt 25) (tt 32)),
     o 10 (.mov (tt 33))])))
  (.reg [34] [o 34 (.bin .add (tt 21) (ci 1)),
    o 21 (.mov (tt 34))]))))
def ir108_T2 : Ir :=
  (.reg [35, 36, 37, 38] [o 35 (.mov (tt 7)),
    o 36 (.mov (tt 10)),
    o 37 (.mkSl 1 1 [(.slice none 0 0)] [(0, (tt 36))]),
    o 38 (.app 1 24 false (tt 35) (tt 37)),
    o 7 (.mov (tt 38))])
def ir108_T3 : Ir :=
  (.reg [39] [o 39 (.bin .add (tt 15) (ci 1)),
    o 15 (.mov (tt 39))])
def ir108_L4 : Ir :=
  (.seq
  (.reg [] [o 16 (.bin .lss (tt 15) (tt 14))])
  (.seq
  (.cond (tt 16)
   .skip
   (.exit 0))
  (.seq
  (.block 1
   (.seq
   (.reg [17, 18] [o 17 (.idx 1 (tt 13) (tt 15)),
     o 18 (.load false 1 (tt 17)),
     o 9 (.mov (tt 18))])
   (.seq
   (.reg [] [o 10 (.mov (.const (.slice none 0 0)))])
   (.seq
   (.seq
   (.reg [] [o 19 (.mov (tt 2)),
     o 20 (.len (tt 19)),
     o 21 (.mov (ci 0))])
   (.block 2
    (.loop ir108_L1)))
   ir108_T2))))
  ir108_T3)))
def ir108_T5 : Ir :=
  (.seq
  (.reg [40] [o 40 (.mov (tt 7)),
    o 6 (.mov (tt 40))])
  .ret)
def ir108 : Ir :=
  (.seq
  (.reg [] [o 6 (.mov (.const (.slice none 0 0)))])
  (.seq
  (.reg [] [o 7 (.mov (.const (.slice none 0 0)))])
  (.seq
  (.seq
  (.reg [] [o 13 (.mov (tt 1)),
    o 14 (.len (tt 13)),
    o 15 (.mov (ci 0))])
  (.block 0
   (.loop ir108_L4)))
  ir108_T5)))
def keep108 : List Nat := [0, 1, 2, 6, 7, 9, 10, 12, 13, 14, 15, 16, 19, 20, 21, 22]
def res108 : List RI := [.tmp 6]
theorem chk108 : chk Tryd.prog 108 3 keep108 = some (ir108, res108) := by kernel_rfl
def ir41_C1 : Ir :=
  (.dreg [68, 69, 70, 71, 72, 73, 74, 75, 76] [0, 1, 0, 4, 12, 28, 60, 127, 255, 511] [(1, 1069), (4, 1072), (5, 73), (6, 74), (7, 75)] [o 68 (.fadr 1 (tt 11)),
      o 69 (.load false 1 (tt 68)),
      o 70 (.mov (tt 13)),
      o 71 (.idx 1 (tt 70) (ci 0)),
      o 72 (.load false 1 (tt 71)),
      o 73 (.mkSl 1 3 [(.int .i64 0)] [(0, (tt 72)), (1, (ci 0)), (2, (ci 0))]),
      o 74 (.mkSl 1 1 [(.slice none 0 0)] [(0, (tt 73))]),
      o 75 (.app 1 24 false (tt 69) (tt 74)),
      o 76 (.fadr 1 (tt 11)),
      on (.store 1 (tt 76) (tt 75))])
def ir41_C2 : Ir :=
  (.reg [79, 80, 81, 82, 83, 84, 85, 86, 87] [o 79 (.fadr 1 (tt 11)),
     o 80 (.load false 1 (tt 79)),
     o 81 (.mov (tt 14)),
     o 82 (.idx 1 (tt 80) (tt 81)),
     o 83 (.load false 1 (tt 82)),
     o 84 (.idx 1 (tt 83) (ci 1)),
     o 85 (.load false 1 (tt 84)),
     o 86 (.bin .add (tt 85) (ci 1)),
     o 87 (.idx 1 (tt 83) (ci 1)),
     on (.store 1 (tt 87) (tt 86))])
def ir41_C3 : Ir :=
  (.dreg [88, 89, 90, 91, 92, 93, 94, 95, 96, 97, 98, 99] [0, 1, 0, 7, 15, 31, 63, 0, 128, 384, 1023, 2047, 4095] [(1, 1089), (4, 1092), (6, 1094), (9, 1097)] [o 88 (.fadr 1 (tt 11)),
     o 89 (.load false 1 (tt 88)),
     o 90 (.mov (tt 14)),
     o 91 (.idx 1 (tt 89) (tt 90)),
     o 92 (.load false 1 (tt 91)),
     o 93 (.idx 1 (tt 92) (ci 2)),
     o 94 (.load false 1 (tt 93)),
     o 95 (.mov (tt 13)),
     o 96 (.idx 1 (tt 95) (ci 1)),
     o 97 (.load false 1 (tt 96)),
     o 98 (.bin .add (tt 94) (tt 97)),
     o 99 (.idx 1 (tt 92) (ci 2)),
     on (.store 1 (tt 99) (tt 98))])
def ir41_E1 : Ir :=
  (.reg [77, 78] [o 77 (.mov (tt 14)),
      o 78 (.bin .add (tt 77) (ci 1)),
      o 14 (.mov (tt 78))])
def ir41_E2 : Ir :=
  (.reg [100] [o 100 (.bin .add (tt 45) (ci 1)),
    o 45 (.mov (tt 100))])
def ir41_L1 : Ir :=
  (.seq
  (.reg [] [o 46 (.bin .lss (tt 45) (tt 44))])
  (.seq
  (.cond (tt 46)
   .skip
   (.exit 0))
  (.seq
  (.block 1
   (.seq
   (.reg [47, 48] [o 47 (.idx 1 (tt 43) (tt 45)),
     o 48 (.load false 1 (tt 47)),
     o 13 (.mov (tt 48))])
   (.seq
   (.reg [49, 50, 51, 52] [o 49 (.fadr 1 (tt 11)),
     o 50 (.load false 1 (tt 49)),
     o 51 (.len (tt 50)),
     o 52 (.bin .sub (tt 51) (ci 1)),
     o 14 (.mov (tt 52))])
   (.seq
   (.seq
   (.dreg [53, 54, 55, 56, 57, 58, 59, 60, 61, 62, 63, 64, 65, 66] [0, 1, 3, 7, 15, 7, 63, 127, 255, 511, 7, 1031, 3079, 8191, 16383] [(4, 1057), (7, 1060), (9, 1062), (12, 1065)] [o 53 (.mov (tt 14)),
     o 54 (.bin .lss (tt 53) (ci 0)),
     o 55 (.mov (tt 54)),
     og 56 55 false (.fadr 1 (tt 11)),
     og 57 55 false (.load false 1 (tt 56)),
     og 58 55 false (.mov (tt 14)),
     og 59 55 false (.idx 1 (tt 57) (tt 58)),
     og 60 55 false (.load false 1 (tt 59)),
     og 61 55 false (.idx 1 (tt 60) (ci 0)),
     og 62 55 false (.load false 1 (tt 61)),
     og 63 55 false (.mov (tt 13)),
     og 64 55 false (.idx 1 (tt 63) (ci 0)),
     og 65 55 false (.load false 1 (tt 64)),
     og 66 55 false (.bin .neq (tt 62) (tt 65)),
     o 67 (.pick (tt 55) (cb true) (tt 66))])
   (.cond (tt 67)
    (.seq
    ir41_C1
    ir41_E1)
    .skip))
   (.seq
   ir41_C2
   ir41_C3)))))
  ir41_E2)))
def ir41_T2 : Ir :=
  (.seq
  (.seq
  (.reg [101, 102] [o 101 (.load true 2 (tt 11)),
    o 102 (.call 37 [(tt 101)]),
    o 103 (.un .not (tt 102))])
  (.cond (tt 103)
   (.seq
   (.reg [104] [o 104 (.build [(.slice none 0 0), (.slice none 0 0)] []),
     on (.store 2 (tt 6) (tt 104)),
     o 7 (.mov (cb false))])
   .ret)
   .skip))
  (.seq
  (.reg [105] [o 105 (.load true 2 (tt 11)),
    on (.store 2 (tt 6) (tt 105)),
    o 7 (.mov (cb true))])
  .ret))
def ir41 : Ir :=
  (.seq
  (.reg [] [o 3 (.box 2 (tt 0)),
    o 6 (.alloc [(.slice none 0 0), (.slice none 0 0)]),
    o 7 (.mov (cb false))])
  (.seq
  (.reg [16, 17, 18, 19, 20, 15, 21, 22] [o 16 (.fadr 0 (tt 3)),
    o 17 (.load false 1 (tt 16)),
    o 18 (.mov (tt 1)),
    o 19 (.mov (tt 2)),
    o 20 (.call 107 [(tt 17), (tt 18), (tt 19)]),
    o 15 (.mov (tt 20)),
    o 21 (.ext (tt 15) 0),
    o 22 (.ext (tt 15) 1),
    o 8 (.mov (tt 21)),
    o 9 (.mov (tt 22))])
  (.seq
  (.seq
  (.reg [23, 24, 25, 26, 27, 28] [o 23 (.load true 2 (tt 3)),
    o 24 (.call 37 [(tt 23)]),
    o 25 (.un .not (tt 24)),
    o 26 (.mov (tt 25)),
    og 27 26 false (.mov (tt 9)),
    og 28 26 false (.un .not (tt 27)),
    o 29 (.pick (tt 26) (cb true) (tt 28))])
  (.cond (tt 29)
   (.seq
   (.reg [30] [o 30 (.build [(.slice none 0 0), (.slice none 0 0)] []),
     on (.store 2 (tt 6) (tt 30)),
     o 7 (.mov (cb false))])
   .ret)
   .skip))
  (.seq
  (.reg [31, 32, 33, 34, 35, 36, 37, 38] [o 31 (.fadr 0 (tt 3)),
    o 32 (.load false 1 (tt 31)),
    o 33 (.fadr 1 (tt 3)),
    o 34 (.load false 1 (tt 33)),
    o 35 (.mov (tt 1)),
    o 36 (.mov (tt 2)),
    o 37 (.mkSl 1 2 [(.string ⟨#[]⟩)] [(0, (tt 35)), (1, (tt 36))]),
    o 38 (.call 108 [(tt 32), (tt 34), (tt 37)]),
    o 10 (.mov (tt 38))])
  (.seq
  (.reg [39, 40] [o 39 (.mov (tt 10)),
    o 40 (.call 88 [(tt 39), (.func 89)])])
  (.seq
  (.reg [41, 42] [o 41 (.mov (tt 8)),
    o 42 (.build [(.slice none 0 0), (.slice none 0 0)] [(0, 1, (tt 41))]),
    o 11 (.alloc [(.slice none 0 0), (.slice none 0 0)]),
    on (.store 2 (tt 11) (tt 42))])
  (.seq
  (.seq
  (.reg [] [o 43 (.mov (tt 10)),
    o 44 (.len (tt 43)),
    o 45 (.mov (ci 0))])
  (.block 0
   (.loop ir41_L1)))
  ir41_T2)))))))
def keep41 : List Nat := [0, 1, 2, 3, 6, 7, 8, 9, 10, 11, 13, 14, 29, 43, 44, 45, 46, 67, 103]
def res41 : List RI := [.cell true 2 6, .tmp 7]
theorem chk41 : chk Tryd.prog 41 3 keep41 = some (ir41, res41) := by kernel_rfl

abbrev tCount : ByteArray := ⟨#[99, 111, 117, 110, 116]⟩
abbrev tTotal : ByteArray := ⟨#[116, 111, 116, 97, 108]⟩
theorem ev_gN : ∀ (nn : Bool) (n : Nat) (f : Nat → ByteArray) (s1 s2 : ByteArray), ev G0 res107 [] (3000 : Nat) (Or.call [] (AB (hasT f s1 n)) [] ((Or.call [] (AB (hasT f s2 n)) [] ((Or.nil.lit.lit.split Or.nil.lit.lit).lit.lit.split Or.nil.lit.lit.lit.lit.lit).lit).lit.lit.split Or.nil.lit.lit.lit.lit.lit.lit.lit.lit.lit)) [Item.ir ir107] (start [TL nn n f, AT s1, AT s2] []) = VC.call (111 : Nat) [AV.p false (PV.sl nn (1 : Nat) n fun (i x : Nat) => PT (f i)), AV.p true (PV.v (Value.string s1))] [] (AB (hasT f s1 n)) [] (VC.split (hasT f s1 n) (VC.call (111 : Nat) [AV.p false (PV.sl nn (1 : Nat) n fun (i x : Nat) => PT (f i)), AV.p true (PV.v (Value.string s2))] [] (AB (hasT f s2 n)) [] (VC.split (hasT f s2 n) (VC.split (!s1.toList == (ByteArray.mk #[(99 : UInt8), (111 : UInt8), (117 : UInt8), (110 : UInt8), (116 : UInt8)]).toList) (VC.done (St.mk [((0 : Nat), AV.p false (PV.sl nn (1 : Nat) n fun (i x : Nat) => PT (f i))), ((1 : Nat), AV.p true (PV.v (Value.string s1))), ((2 : Nat), AV.p true (PV.v (Value.string s2))), ((6 : Nat), AV.own (26 : Nat)), ((7 : Nat), AV.p true (PV.v (Value.bool !s1.toList == (ByteArray.mk #[(116 : UInt8), (111 : UInt8), (116 : UInt8), (97 : UInt8), (108 : UInt8)]).toList))), ((8 : Nat), AV.p true (PV.v (Value.bool !s1.toList == (ByteArray.mk #[(116 : UInt8), (111 : UInt8), (116 : UInt8), (97 : UInt8), (108 : UInt8)]).toList)))] [((26 : Nat), Ob.row Mode.u true (1 : Nat) (3 : Nat) (fun (i x : Nat) => PV.v (Value.string (litS [s1, ByteArray.mk #[(99 : UInt8), (111 : UInt8), (117 : UInt8), (110 : UInt8), (116 : UInt8)], ByteArray.mk #[(116 : UInt8), (111 : UInt8), (116 : UInt8), (97 : UInt8), (108 : UInt8)]] i))) [])])) (VC.done (St.mk [((0 : Nat), AV.p false (PV.sl nn (1 : Nat) n fun (i x : Nat) => PT (f i))), ((1 : Nat), AV.p true (PV.v (Value.string s1))), ((2 : Nat), AV.p true (PV.v (Value.string s2))), ((6 : Nat), AV.own (26 : Nat)), ((7 : Nat), AV.p true (PV.v (Value.bool false))), ((8 : Nat), AV.p true (PV.v (Value.bool false)))] [((26 : Nat), Ob.row Mode.u true (1 : Nat) (3 : Nat) (fun (i x : Nat) => PV.v (Value.string (litS [s1, ByteArray.mk #[(99 : UInt8), (111 : UInt8), (117 : UInt8), (110 : UInt8), (116 : UInt8)], ByteArray.mk #[(116 : UInt8), (111 : UInt8), (116 : UInt8), (97 : UInt8), (108 : UInt8)]] i))) [])]))) (VC.done (St.mk [((0 : Nat), AV.p false (PV.sl nn (1 : Nat) n fun (i x : Nat) => PT (f i))), ((1 : Nat), AV.p true (PV.v (Value.string s1))), ((2 : Nat), AV.p true (PV.v (Value.string s2))), ((6 : Nat), AV.own (26 : Nat)), ((7 : Nat), AV.p true (PV.v (Value.bool false))), ((8 : Nat), AV.p true (PV.v (Value.bool false)))] [((26 : Nat), Ob.row Mode.u true (1 : Nat) (3 : Nat) (fun (i x : Nat) => PV.v (Value.string (litS [s1, ByteArray.mk #[(99 : UInt8), (111 : UInt8), (117 : UInt8), (110 : UInt8), (116 : UInt8)], ByteArray.mk #[(116 : UInt8), (111 : UInt8), (116 : UInt8), (97 : UInt8), (108 : UInt8)]] i))) [])])))) (VC.done (St.mk [((0 : Nat), AV.p false (PV.sl nn (1 : Nat) n fun (i x : Nat) => PT (f i))), ((1 : Nat), AV.p true (PV.v (Value.string s1))), ((2 : Nat), AV.p true (PV.v (Value.string s2))), ((6 : Nat), AV.own (26 : Nat)), ((7 : Nat), AV.p true (PV.v (Value.bool false))), ((8 : Nat), AV.p true (PV.v (Value.bool false)))] [((26 : Nat), Ob.row Mode.u true (1 : Nat) (3 : Nat) (fun (i x : Nat) => PV.v (Value.string (litS [s1, ByteArray.mk #[(99 : UInt8), (111 : UInt8), (117 : UInt8), (110 : UInt8), (116 : UInt8)], ByteArray.mk #[(116 : UInt8), (111 : UInt8), (116 : UInt8), (97 : UInt8), (108 : UInt8)]] i))) [])]))) := by intros; kernel_rfl
theorem ev_tk : ∀ (nn nn' nn'' : Bool) (n : Nat) (f : Nat → ByteArray) (m : Nat) (w : Nat → Nat) (h : Nat → Nat → Int) (K : Nat) (g : Nat → ByteArray), ev G0 res108 [] (3000 : Nat) Or.nil [Item.ir ir108] (start [TL nn n f, RL nn' m w h, TL nn'' K g] []) = VC.loop ir108_L4 [Item.bend (0 : Nat), Item.ir ir108_T5] (St.mk [((0 : Nat), AV.p false (PV.sl nn (1 : Nat) n fun (i x : Nat) => PT (f i))), ((1 : Nat), AV.p false (PV.sl nn' (1 : Nat) m (RR w h))), ((2 : Nat), AV.p false (PV.sl nn'' (1 : Nat) K fun (i x : Nat) => PT (g i))), ((6 : Nat), AV.p true (PV.v (Value.slice none (0 : Nat) (0 : Nat)))), ((7 : Nat), AV.p true (PV.v (Value.slice none (0 : Nat) (0 : Nat)))), ((13 : Nat), AV.p false (PV.sl nn' (1 : Nat) m (RR w h))), ((14 : Nat), AV.p true (PV.v (Value.int IntKind.i64 (↑m : Int)))), ((15 : Nat), AV.p true (PV.v (Value.int IntKind.i64 (0 : Int))))] []) := by intros; kernel_rfl
def tkH (n : Nat) (f : Nat → ByteArray) (h : Nat → Nat → Int) (g : Nat → ByteArray) : Nat → Nat → Int := fun i j => h i (colT f (g j) n).toNat
def st_tk (nn nn' nn'' : Bool) (n : Nat) (f : Nat → ByteArray) (m : Nat) (w : Nat → Nat) (h : Nat → Nat → Int) (K : Nat) (g : Nat → ByteArray) (k : Nat) : St := ⟨[(0, TL nn n f), (2, TL nn'' K g), (7, .own 7), (13, RL nn' m w h), (14, AI m), (15, AI k)], [(7, .row .u false 1 k (RR (fun _ => K) (tkH n f h g)) [])]⟩
theorem evr_tk : ∀ (nn nn' nn'' : Bool) (n : Nat) (f : Nat → ByteArray) (m : Nat) (w : Nat → Nat) (h : Nat → Nat → Int) (K : Nat) (g : Nat → ByteArray) (I : Nat → St → Prop) (k : Nat), ev G0 res108 [] (3000 : Nat) (Or.nil.split Or.nil) [Item.ir ir108_L4, Item.lend (I k), Item.bend (0 : Nat), Item.ir ir108_T5] (st_tk nn nn' nn'' n f m w h K g k) = VC.split (decide ((↑k : Int) < (↑m : Int))) (VC.need ((0 : Int) ≤ (↑k : Int) ∧ (↑k : Int).toNat < m) (VC.loop ir108_L1 [Item.bend (2 : Nat), Item.ir ir108_T2, Item.bend (1 : Nat), Item.ir ir108_T3, Item.lend (I k), Item.bend (0 : Nat), Item.ir ir108_T5] (St.mk [((0 : Nat), AV.p false (PV.sl nn (1 : Nat) n fun (i x : Nat) => PT (f i))), ((2 : Nat), AV.p false (PV.sl nn'' (1 : Nat) K fun (i x : Nat) => PT (g i))), ((7 : Nat), AV.own (7 : Nat)), ((13 : Nat), AV.p false (PV.sl nn' (1 : Nat) m (RR w h))), ((14 : Nat), AV.p true (PV.v (Value.int IntKind.i64 (↑m : Int)))), ((15 : Nat), AV.p true (PV.v (Value.int IntKind.i64 (↑k : Int)))), ((16 : Nat), AV.p true (PV.v (Value.bool (decide ((↑k : Int) < (↑m : Int)))))), ((9 : Nat), AV.p false (PV.sl false (1 : Nat) (w (↑k : Int).toNat) fun (j x : Nat) => PI (h (↑k : Int).toNat j))), ((10 : Nat), AV.p true (PV.v (Value.slice none (0 : Nat) (0 : Nat)))), ((19 : Nat), AV.p false (PV.sl nn'' (1 : Nat) K fun (i x : Nat) => PT (g i))), ((20 : Nat), AV.p true (PV.v (Value.int IntKind.i64 (↑K : Int)))), ((21 : Nat), AV.p true (PV.v (Value.int IntKind.i64 (0 : Int))))] [((7 : Nat), Ob.row Mode.u false (1 : Nat) k (RR (fun (x : Nat) => K) (tkH n f h g)) [])]))) (VC.done (St.mk [((0 : Nat), AV.p false (PV.sl nn (1 : Nat) n fun (i x : Nat) => PT (f i))), ((2 : Nat), AV.p false (PV.sl nn'' (1 : Nat) K fun (i x : Nat) => PT (g i))), ((7 : Nat), AV.own (7 : Nat)), ((13 : Nat), AV.p false (PV.sl nn' (1 : Nat) m (RR w h))), ((14 : Nat), AV.p true (PV.v (Value.int IntKind.i64 (↑m : Int)))), ((15 : Nat), AV.p true (PV.v (Value.int IntKind.i64 (↑k : Int)))), ((16 : Nat), AV.p true (PV.v (Value.bool (decide ((↑k : Int) < (↑m : Int)))))), ((6 : Nat), AV.own (7 : Nat))] [((7 : Nat), Ob.row Mode.u false (1 : Nat) k (RR (fun (x : Nat) => K) (tkH n f h g)) [])])) := by intros; kernel_rfl
def st_tk1 (nn nn' nn'' : Bool) (n : Nat) (f : Nat → ByteArray) (m : Nat) (w : Nat → Nat) (h : Nat → Nat → Int) (K : Nat) (g : Nat → ByteArray) (k j : Nat) : St := ⟨[(0, TL nn n f), (2, TL nn'' K g), (7, .own 7), (9, .p false (.sl false 1 (w k) fun i _ => PI (h k i))), (10, .own 10), (13, RL nn' m w h), (14, AI m), (15, AI k), (19, TL nn'' K g), (20, AI K), (21, AI j)], [(7, .row .u false 1 k (RR (fun _ => K) (tkH n f h g)) []), (10, .row .u false 1 j (fun i _ => PI (tkH n f h g k i)) [])]⟩
theorem evr_tk1 : ∀ (nn nn' nn'' : Bool) (n : Nat) (f : Nat → ByteArray) (m : Nat) (w : Nat → Nat) (h : Nat → Nat → Int) (K : Nat) (g : Nat → ByteArray) (I : Nat → St → Prop) (k : Nat) (J : Nat → St → Prop) (j : Nat), ev G0 res108 [] (3000 : Nat) ((Or.call [] (AI (colT f (g (↑j : Int).toNat) n)) [] Or.nil).split Or.nil) [Item.ir ir108_L1, Item.lend (J j), Item.bend (2 : Nat), Item.ir ir108_T2, Item.bend (1 : Nat), Item.ir ir108_T3, Item.lend (I k), Item.bend (0 : Nat), Item.ir ir108_T5] (st_tk1 nn nn' nn'' n f m w h K g k j) = VC.split (decide ((↑j : Int) < (↑K : Int))) (VC.need ((0 : Int) ≤ (↑j : Int) ∧ (↑j : Int).toNat < K) (VC.call (113 : Nat) [AV.p false (PV.sl nn (1 : Nat) n fun (i x : Nat) => PT (f i)), AV.p true (PV.v (Value.string (g (↑j : Int).toNat)))] [] (AI (colT f (g (↑j : Int).toNat) n)) [] (VC.need ((0 : Int) ≤ colT f (g (↑j : Int).toNat) n ∧ (colT f (g (↑j : Int).toNat) n).toNat < w k) (VC.need (((j + (1 : Nat)) * (8 : Nat) ≤ (140737488355328 : Nat) ∧ (↑(j + (1 : Nat)) : Int) ≤ (9223372036854775807 : Int)) ∧ allV (1 : Nat) (1 : Nat) (setG [((0 : Nat), (0 : Nat), PV.v (Value.int IntKind.i64 (h k (colT f (g (↑j : Int).toNat) n).toNat)))] fun (x j_1 : Nat) => PV.v ([Value.int IntKind.i64 (0 : Int)].getD j_1 undef))) (VC.lend (J j) (St.mk [((0 : Nat), AV.p false (PV.sl nn (1 : Nat) n fun (i x : Nat) => PT (f i))), ((2 : Nat), AV.p false (PV.sl nn'' (1 : Nat) K fun (i x : Nat) => PT (g i))), ((7 : Nat), AV.own (7 : Nat)), ((9 : Nat), AV.p false (PV.sl false (1 : Nat) (w k) fun (i x : Nat) => PI (h k i))), ((10 : Nat), AV.own (33 : Nat)), ((13 : Nat), AV.p false (PV.sl nn' (1 : Nat) m (RR w h))), ((14 : Nat), AV.p true (PV.v (Value.int IntKind.i64 (↑m : Int)))), ((15 : Nat), AV.p true (PV.v (Value.int IntKind.i64 (↑k : Int)))), ((19 : Nat), AV.p false (PV.sl nn'' (1 : Nat) K fun (i x : Nat) => PT (g i))), ((20 : Nat), AV.p true (PV.v (Value.int IntKind.i64 (↑K : Int)))), ((21 : Nat), AV.p true (PV.v (Value.int IntKind.i64 (IntKind.i64.wrap ((↑j : Int) + (1 : Int)))))), ((22 : Nat), AV.p true (PV.v (Value.bool (decide ((↑j : Int) < (↑K : Int)))))), ((12 : Nat), AV.p true (PV.v (Value.string (g (↑j : Int).toNat))))] [((7 : Nat), Ob.row Mode.u false (1 : Nat) k (RR (fun (x : Nat) => K) (tkH n f h g)) []), ((33 : Nat), Ob.row Mode.u false (1 : Nat) (j + (1 : Nat)) (fun (a b : Nat) => if a < j then PI (tkH n f h g k a) else setG [((0 : Nat), (0 : Nat), PV.v (Value.int IntKind.i64 (h k (colT f (g (↑j : Int).toNat) n).toNat)))] (fun (x j_1 : Nat) => PV.v ([Value.int IntKind.i64 (0 : Int)].getD j_1 undef)) (a - j) b) [])])))))) (VC.need (((k + (1 : Nat)) * (24 : Nat) ≤ (140737488355328 : Nat) ∧ (↑(k + (1 : Nat)) : Int) ≤ (9223372036854775807 : Int)) ∧ allOne (1 : Nat) (1 : Nat) (setG [((0 : Nat), (0 : Nat), PV.sl false (1 : Nat) j fun (i x : Nat) => PI (tkH n f h g k i))] fun (x j_1 : Nat) => PV.v ([Value.slice none (0 : Nat) (0 : Nat)].getD j_1 undef))) (VC.lend (I k) (St.mk [((0 : Nat), AV.p false (PV.sl nn (1 : Nat) n fun (i x : Nat) => PT (f i))), ((2 : Nat), AV.p false (PV.sl nn'' (1 : Nat) K fun (i x : Nat) => PT (g i))), ((7 : Nat), AV.own (38 : Nat)), ((9 : Nat), AV.p false (PV.sl false (1 : Nat) (w k) fun (i x : Nat) => PI (h k i))), ((10 : Nat), AV.own (10 : Nat)), ((13 : Nat), AV.p false (PV.sl nn' (1 : Nat) m (RR w h))), ((14 : Nat), AV.p true (PV.v (Value.int IntKind.i64 (↑m : Int)))), ((15 : Nat), AV.p true (PV.v (Value.int IntKind.i64 (IntKind.i64.wrap ((↑k : Int) + (1 : Int)))))), ((19 : Nat), AV.p false (PV.sl nn'' (1 : Nat) K fun (i x : Nat) => PT (g i))), ((20 : Nat), AV.p true (PV.v (Value.int IntKind.i64 (↑K : Int)))), ((21 : Nat), AV.p true (PV.v (Value.int IntKind.i64 (↑j : Int)))), ((22 : Nat), AV.p true (PV.v (Value.bool (decide ((↑j : Int) < (↑K : Int))))))] [((38 : Nat), Ob.row Mode.u false (1 : Nat) (k + (1 : Nat)) (fun (a b : Nat) => if a < k then RR (fun (x : Nat) => K) (tkH n f h g) a b else setG [((0 : Nat), (0 : Nat), PV.sl false (1 : Nat) j fun (i x : Nat) => PI (tkH n f h g k i))] (fun (x j_1 : Nat) => PV.v ([Value.slice none (0 : Nat) (0 : Nat)].getD j_1 undef)) (a - k) b) [])]))) := by intros; kernel_rfl
/-! ### contracts -/
def gnB (n : Nat) (f : Nat → ByteArray) (s1 s2 : ByteArray) : Bool := hasT f s1 n && hasT f s2 n && !(s1.toList == tCount.toList) && !(s1.toList == tTotal.toList)
abbrev gNm (s1 : ByteArray) : Nat → ByteArray := litS [s1, tCount, tTotal]
theorem c_gN (nn : Bool) (n : Nat) (f : Nat → ByteArray) (s1 s2 : ByteArray) (hn : n ≤ 1048576) : PObj Tryd.prog G0 107 [TL nn n f, AT s1, AT s2] [] (.tp [.own 0, AB (gnB n f s1 s2)]) [(0, .row .u true 1 3 (TR (gNm s1)) [])] := by
  refine PObj.by chk107 rfl (ev_gN nn n f s1 s2) ?_
  simp only [VC.holds_split, VC.holds_need, VC.holds_doneP, VC.holds_done, VC.holds_either, VC.holds_call, VC.holds_callE, VC.holds_lend, VC.holds_stop, VC.holds_fail, decide_eq_true_eq, decide_eq_false_iff_not]
  refine ⟨c_hasT _ _ _ _ hn, fun h1 => ⟨c_hasT _ _ _ _ hn, fun h2 => ⟨fun h3 => ?_, fun h3 => ?_⟩, fun h2 => ?_⟩, fun h1 => ?_⟩
  · have e : gnB n f s1 s2 = !(s1.toList == tTotal.toList) := by simp only [gnB, h1, h2, h3, Bool.true_and]
    rw [e]
    refine ResOk.mk [] [(0, 26)] [] _ _ ?_ ⟨rfl, rfl⟩
    generalize (s1.toList == tTotal.toList) = B
    simp [doneC, resOf, resAV, tup, pinR, PV.Le_self, hbs, St.lowers, St.lower, stLe, leEnv, leObs, obLe, injB, pinC, AV.leC, AV.leCs, PV.leC, PV.Le_v, St.get, St.obj, look, rho, isNew, keptC, renH, Mode.ok, Mode.isZ, PV.isVal, PV.isNilSl, List.all_nil, List.all_cons, List.any_nil, List.any_cons, List.map_nil, List.map_cons, res107]
  · have e : gnB n f s1 s2 = false := by simp only [gnB, h1, h2, h3, Bool.true_and, Bool.false_and]
    rw [e]
    refine ResOk.mk [] [(0, 26)] [] _ _ ?_ ⟨rfl, rfl⟩
    simp [doneC, resOf, resAV, tup, pinR, PV.Le_self, hbs, St.lowers, St.lower, stLe, leEnv, leObs, obLe, injB, pinC, AV.leC, AV.leCs, PV.leC, PV.Le_v, St.get, St.obj, look, rho, isNew, keptC, renH, Mode.ok, Mode.isZ, PV.isVal, PV.isNilSl, List.all_nil, List.all_cons, List.any_nil, List.any_cons, List.map_nil, List.map_cons, res107]
  · refine ResOk.mk [] [(0, 26)] [] _ _ ?_ ⟨rfl, rfl⟩
    simp [doneC, resOf, resAV, tup, pinR, PV.Le_self, hbs, St.lowers, St.lower, stLe, leEnv, leObs, obLe, injB, pinC, AV.leC, AV.leCs, PV.leC, PV.Le_v, St.get, St.obj, look, rho, isNew, keptC, renH, Mode.ok, Mode.isZ, PV.isVal, PV.isNilSl, List.all_nil, List.all_cons, List.any_nil, List.any_cons, List.map_nil, List.map_cons, res107, gnB, h1, h2]
  · refine ResOk.mk [] [(0, 26)] [] _ _ ?_ ⟨rfl, rfl⟩
    simp [doneC, resOf, resAV, tup, pinR, PV.Le_self, hbs, St.lowers, St.lower, stLe, leEnv, leObs, obLe, injB, pinC, AV.leC, AV.leCs, PV.leC, PV.Le_v, St.get, St.obj, look, rho, isNew, keptC, renH, Mode.ok, Mode.isZ, PV.isVal, PV.isNilSl, List.all_nil, List.all_cons, List.any_nil, List.any_cons, List.map_nil, List.map_cons, res107, gnB, h1]
theorem c_tk (nn nn' nn'' : Bool) (n : Nat) (f : Nat → ByteArray) (m : Nat) (w : Nat → Nat) (h : Nat → Nat → Int) (K : Nat) (g : Nat → ByteArray) (hn : n ≤ 1048576) (hm : m ≤ 1048576) (hK : K ≤ 1048576) (hc : ∀ j, j < K → 0 ≤ colT f (g j) n) (hw : ∀ i, i < m → n ≤ w i) : PObj Tryd.prog G0 108 [TL nn n f, RL nn' m w h, TL nn'' K g] [] (.own 0) [(0, .row .u false 1 m (RR (fun _ => K) (tkH n f h g)) [])] := by
  refine PObj.by chk108 rfl (ev_tk nn nn' nn'' n f m w h K g) ?_
  refine loop_by (st_tk nn nn' nn'' n f m w h K g) (fun k => k ≤ m) (fun k => m - k) 0 [] [] [7] (by omega) ?_ (evr_tk nn nn' nn'' n f m w h K g) fun k hk => ?_
  · simp [st_tk, hbs, St.lowers, St.lower, stLe, leEnv, leObs, obLe, injB, pinC, AV.leC, AV.leCs, PV.leC, PV.Le_v, St.get, St.obj, look, rho, isNew, keptC, renH, Mode.ok, Mode.isZ, PV.isVal, PV.isNilSl, List.all_nil, List.all_cons, List.any_nil, List.any_cons, List.map_nil, List.map_cons, PV.Le_self]
  · have ek : IntKind.i64.wrap ((k : Int) + 1) = ((k + 1 : Nat) : Int) := wrap_in (by omega) (by omega)
    simp only [VC.holds_split, VC.holds_need, VC.holds_doneP, VC.holds_done, VC.holds_either, VC.holds_call, VC.holds_callE, VC.holds_lend, VC.holds_stop, VC.holds_fail, decide_eq_true_eq, decide_eq_false_iff_not, Int.toNat_natCast]
    refine ⟨fun h0 => ⟨⟨by omega, by omega⟩, ?_⟩, fun h0 => ?_⟩
    · refine loop_by (st_tk1 nn nn' nn'' n f m w h K g k) (fun j => j ≤ K) (fun j => K - j) 0 [] [] [10] (by omega) ?_ (fun J j => evr_tk1 nn nn' nn'' n f m w h K g _ k J j) fun j hj => ?_
      · simp [st_tk1, hbs, St.lowers, St.lower, stLe, leEnv, leObs, obLe, injB, pinC, AV.leC, AV.leCs, PV.leC, PV.Le_v, St.get, St.obj, look, rho, isNew, keptC, renH, Mode.ok, Mode.isZ, PV.isVal, PV.isNilSl, List.all_nil, List.all_cons, List.any_nil, List.any_cons, List.map_nil, List.map_cons, PV.Le_self]
      · have ej : IntKind.i64.wrap ((j : Int) + 1) = ((j + 1 : Nat) : Int) := wrap_in (by omega) (by omega)
        simp only [VC.holds_split, VC.holds_need, VC.holds_doneP, VC.holds_done, VC.holds_either, VC.holds_call, VC.holds_callE, VC.holds_lend, VC.holds_stop, VC.holds_fail, decide_eq_true_eq, decide_eq_false_iff_not, Int.toNat_natCast]
        refine ⟨fun h1 => ?_, fun h1 => ?_⟩
        · have c1 := hc j (by omega)
          have c2 := (colT_lt f (g j) n).2
          have c3 := hw k (by omega)
          refine ⟨⟨by omega, by omega⟩, c_ixT _ _ _ _ hn, ⟨by omega, by omega⟩, ⟨⟨by omega, by omega⟩, ?_⟩, Again.mk (j + 1) [] [(10, 33)] [] (by omega) (by omega) ?_⟩
          · intro a b ha hb
            obtain rfl : a = 0 := by omega
            obtain rfl : b = 0 := by omega
            rfl
          · simp [st_tk1, hbs, St.lowers, St.lower, stLe, leEnv, leObs, obLe, injB, pinC, AV.leC, AV.leCs, PV.leC, PV.Le_v, St.get, St.obj, look, rho, isNew, keptC, renH, Mode.ok, Mode.isZ, PV.isVal, PV.isNilSl, List.all_nil, List.all_cons, List.any_nil, List.any_cons, List.map_nil, List.map_cons, PV.Le_self, ej]
            intro i hi
            by_cases h2 : i < j
            · simp only [h2, if_true]; exact .refl _
            · obtain rfl : i = j := by omega
              simp [setG, cellSet, tkH]; exact .refl _
        · have hjK : j = K := by omega
          subst hjK
          refine ⟨⟨⟨by omega, by omega⟩, ?_⟩, Again.mk (k + 1) [] [(7, 38)] [] (by omega) (by omega) ?_⟩
          · intro a b ha hb
            obtain rfl : a = 0 := by omega
            obtain rfl : b = 0 := by omega
            rfl
          · simp [st_tk, hbs, St.lowers, St.lower, stLe, leEnv, leObs, obLe, injB, pinC, AV.leC, AV.leCs, PV.leC, PV.Le_v, St.get, St.obj, look, rho, isNew, keptC, renH, Mode.ok, Mode.isZ, PV.isVal, PV.isNilSl, List.all_nil, List.all_cons, List.any_nil, List.any_cons, List.map_nil, List.map_cons, PV.Le_self, ek]
            intro i hi
            by_cases h2 : i < k
            · simp only [h2, if_true]; exact .refl _
            · obtain rfl : i = k := by omega
              simp [setG, cellSet]; exact .refl _
    · have hkm : k = m := by omega
      subst hkm
      refine ResOk.mk [] [(0, 7)] [] _ _ ?_ ⟨rfl, rfl⟩
      simp [doneC, resOf, resAV, tup, pinR, PV.Le_self, hbs, St.lowers, St.lower, stLe, leEnv, leObs, obLe, injB, pinC, AV.leC, AV.leCs, PV.leC, PV.Le_v, St.get, St.obj, look, rho, isNew, keptC, renH, Mode.ok, Mode.isZ, PV.isVal, PV.isNilSl, List.all_nil, List.all_cons, List.any_nil, List.any_cons, List.map_nil, List.map_cons, res108]
/-! ### GroupRows -/
theorem c_tk2 (nn nn' : Bool) (n : Nat) (f : Nat → ByteArray) (m : Nat) (w : Nat → Nat) (h : Nat → Nat → Int) (s1 s2 : ByteArray) (hn : n ≤ 1048576) (hm : m ≤ 1048576) (hc1 : 0 ≤ colT f s1 n) (hc2 : 0 ≤ colT f s2 n) (hw : ∀ i, i < m → n ≤ w i) : PObj Tryd.prog G0 108 [TL nn n f, RL nn' m w h, TL true 2 (litS [s1, s2])] [] (.own 0) [(0, .row .u false 1 m (RR (fun _ => 2) (tkH n f h (litS [s1, s2]))) [])] :=
  c_tk nn nn' true n f m w h 2 (litS [s1, s2]) hn hm (by omega) (fun j hj => by
    match j, hj with
    | 0, _ => exact hc1
    | 1, _ => exact hc2) hw
theorem ev_imG : ∀ (n : Nat) (f : Nat → ByteArray) (m : Nat) (w : Nat → Nat) (h : Nat → Nat → Int) (s1 s2 : ByteArray), ev G0 res41 [] (3000 : Nat) (Or.call [] (AV.tp [AV.own (0 : Nat), AB (gnB n f s1 s2)]) [((0 : Nat), Ob.row Mode.u true (1 : Nat) (3 : Nat) (TR (gNm s1)) [])] (Or.call [] (AB (tableB n f m w h)) [] (Or.nil.lit.lit.lit.split (Or.nil.split (Or.call [] (AV.own (0 : Nat)) [((0 : Nat), Ob.row Mode.u false (1 : Nat) m (RR (fun (x : Nat) => (2 : Nat)) (tkH n f h (litS [s1, s2]))) [])] (Or.call [(1038 : Nat)] (AV.tp []) [((0 : Nat), Ob.row Mode.u false (1 : Nat) m (RR (wL (srtA m (fun (x : Nat) => (2 : Nat)) (tkH n f h (litS [s1, s2])))) (hL (srtA m (fun (x : Nat) => (2 : Nat)) (tkH n f h (litS [s1, s2]))))) [])] Or.nil))).lit.lit))) [Item.ir ir41] (start [TA false false n f m w h, AT s1, AT s2] []) = VC.call (107 : Nat) [AV.p false (PV.sl false (1 : Nat) n fun (i x : Nat) => PT (f i)), AV.p true (PV.v (Value.string s1)), AV.p true (PV.v (Value.string s2))] [] (AV.tp [AV.own (0 : Nat), AB (gnB n f s1 s2)]) [((0 : Nat), Ob.row Mode.u true (1 : Nat) (3 : Nat) (TR (gNm s1)) [])] (VC.call (37 : Nat) [AV.ag [AV.p false (PV.sl false (1 : Nat) n fun (i x : Nat) => PT (f i)), AV.p false (PV.sl false (1 : Nat) m (RR w h))]] [] (AB (tableB n f m w h)) [] (VC.split (!tableB n f m w h) (VC.done (St.mk [((0 : Nat), AV.ag [AV.p false (PV.sl false (1 : Nat) n fun (i x : Nat) => PT (f i)), AV.p false (PV.sl false (1 : Nat) m (RR w h))]), ((1 : Nat), AV.p true (PV.v (Value.string s1))), ((2 : Nat), AV.p true (PV.v (Value.string s2))), ((3 : Nat), AV.adr (3 : Nat) (0 : Nat)), ((6 : Nat), AV.adr (6 : Nat) (0 : Nat)), ((7 : Nat), AV.p true (PV.v (Value.bool false))), ((8 : Nat), AV.own (1020 : Nat)), ((9 : Nat), AV.p true (PV.v (Value.bool (gnB n f s1 s2)))), ((29 : Nat), AV.p true (PV.v (Value.bool true)))] [((3 : Nat), Ob.box [AV.p false (PV.sl false (1 : Nat) n fun (i x : Nat) => PT (f i)), AV.p false (PV.sl false (1 : Nat) m (RR w h))]), ((6 : Nat), Ob.box [AV.p true (PV.v (Value.slice none (0 : Nat) (0 : Nat))), AV.p true (PV.v (Value.slice none (0 : Nat) (0 : Nat)))]), ((1020 : Nat), Ob.row Mode.u true (1 : Nat) (3 : Nat) (TR (gNm s1)) [])])) (VC.split (!gnB n f s1 s2) (VC.done (St.mk [((0 : Nat), AV.ag [AV.p false (PV.sl false (1 : Nat) n fun (i x : Nat) => PT (f i)), AV.p false (PV.sl false (1 : Nat) m (RR w h))]), ((1 : Nat), AV.p true (PV.v (Value.string s1))), ((2 : Nat), AV.p true (PV.v (Value.string s2))), ((3 : Nat), AV.adr (3 : Nat) (0 : Nat)), ((6 : Nat), AV.adr (6 : Nat) (0 : Nat)), ((7 : Nat), AV.p true (PV.v (Value.bool false))), ((8 : Nat), AV.own (1020 : Nat)), ((9 : Nat), AV.p true (PV.v (Value.bool (gnB n f s1 s2)))), ((29 : Nat), AV.p true (PV.v (Value.bool !gnB n f s1 s2)))] [((3 : Nat), Ob.box [AV.p false (PV.sl false (1 : Nat) n fun (i x : Nat) => PT (f i)), AV.p false (PV.sl false (1 : Nat) m (RR w h))]), ((6 : Nat), Ob.box [AV.p true (PV.v (Value.slice none (0 : Nat) (0 : Nat))), AV.p true (PV.v (Value.slice none (0 : Nat) (0 : Nat)))]), ((1020 : Nat), Ob.row Mode.u true (1 : Nat) (3 : Nat) (TR (gNm s1)) [])])) (VC.call (108 : Nat) [AV.p false (PV.sl false (1 : Nat) n fun (i x : Nat) => PT (f i)), AV.p false (PV.sl false (1 : Nat) m (RR w h)), AV.p false (PV.sl true (1 : Nat) (2 : Nat) fun (i x : Nat) => PV.v (Value.string (litS [s1, s2] i)))] [] (AV.own (0 : Nat)) [((0 : Nat), Ob.row Mode.u false (1 : Nat) m (RR (fun (x : Nat) => (2 : Nat)) (tkH n f h (litS [s1, s2]))) [])] (VC.call (88 : Nat) [AV.own (0 : Nat), AV.cl (89 : Nat) [] []] [((0 : Nat), Ob.row Mode.u false (1 : Nat) m (RR (fun (x : Nat) => (2 : Nat)) (tkH n f h (litS [s1, s2]))) [])] (AV.tp []) [((0 : Nat), Ob.row Mode.u false (1 : Nat) m (RR (wL (srtA m (fun (x : Nat) => (2 : Nat)) (tkH n f h (litS [s1, s2])))) (hL (srtA m (fun (x : Nat) => (2 : Nat)) (tkH n f h (litS [s1, s2]))))) [])] (VC.loop ir41_L1 [Item.bend (0 : Nat), Item.ir ir41_T2] (St.mk [((0 : Nat), AV.ag [AV.p false (PV.sl false (1 : Nat) n fun (i x : Nat) => PT (f i)), AV.p false (PV.sl false (1 : Nat) m (RR w h))]), ((1 : Nat), AV.p true (PV.v (Value.string s1))), ((2 : Nat), AV.p true (PV.v (Value.string s2))), ((3 : Nat), AV.adr (3 : Nat) (0 : Nat)), ((6 : Nat), AV.adr (6 : Nat) (0 : Nat)), ((7 : Nat), AV.p true (PV.v (Value.bool false))), ((8 : Nat), AV.own (1020 : Nat)), ((9 : Nat), AV.p true (PV.v (Value.bool (gnB n f s1 s2)))), ((29 : Nat), AV.p true (PV.v (Value.bool !gnB n f s1 s2))), ((10 : Nat), AV.own (1038 : Nat)), ((11 : Nat), AV.adr (11 : Nat) (0 : Nat)), ((43 : Nat), AV.own (1038 : Nat)), ((44 : Nat), AV.p true (PV.v (Value.int IntKind.i64 (↑m : Int)))), ((45 : Nat), AV.p true (PV.v (Value.int IntKind.i64 (0 : Int))))] [((3 : Nat), Ob.box [AV.p false (PV.sl false (1 : Nat) n fun (i x : Nat) => PT (f i)), AV.p false (PV.sl false (1 : Nat) m (RR w h))]), ((6 : Nat), Ob.box [AV.p true (PV.v (Value.slice none (0 : Nat) (0 : Nat))), AV.p true (PV.v (Value.slice none (0 : Nat) (0 : Nat)))]), ((1020 : Nat), Ob.row Mode.u true (1 : Nat) (3 : Nat) (TR (gNm s1)) []), ((1038 : Nat), Ob.row Mode.u false (1 : Nat) m (RR (wL (srtA m (fun (x : Nat) => (2 : Nat)) (tkH n f h (litS [s1, s2])))) (hL (srtA m (fun (x : Nat) => (2 : Nat)) (tkH n f h (litS [s1, s2]))))) []), ((11 : Nat), Ob.box [AV.own (1020 : Nat), AV.p true (PV.v (Value.slice none (0 : Nat) (0 : Nat)))])]))))))) := by intros; kernel_rfl
abbrev R3 (H : Nat → Nat → Int) : Nat → Nat → PV := RR (fun _ => 3) H
def st_iG (s1 : ByteArray) (m : Nat) (A : List (List Int)) (k N : Nat) (H : Nat → Nat → Int) : St := ⟨[(6, .adr 6 0), (7, AB false), (11, .adr 11 0), (43, .p true (.sl false 1 m (RR (wL A) (hL A)))), (44, AI m), (45, AI k)], [(6, .box [nilT, nilT]), (1020, .row .u true 1 3 (TR (gNm s1)) []), (11, .box [.own 1020, .own 12]), (12, .row .u false 1 N (R3 H) [])]⟩
theorem evr_iG : ∀ (s1 : ByteArray) (m : Nat) (A : List (List Int)) (k N : Nat) (H : Nat → Nat → Int) (I : Nat × List Gr → St → Prop) (x : Nat × List Gr), ev G0 res41 [] (3000 : Nat) (((Or.stop (1 : Nat)).lit.lit.lit.lit.lit.lit.lit.lit.lit.lit.lit.lit.split ((Or.stop (1 : Nat)).split (Or.stop (2 : Nat))).lit.lit.lit.lit.lit.lit.lit.lit.lit.lit.lit).split (Or.call [] (AB (tableB (3 : Nat) (gNm s1) N (fun (x_1 : Nat) => (3 : Nat)) H)) [] (Or.nil.split Or.nil))) [Item.ir ir41_L1, Item.lend (I x), Item.bend (0 : Nat), Item.ir ir41_T2] (st_iG s1 m A k N H) = VC.split (decide ((↑k : Int) < (↑m : Int))) (VC.need ((0 : Int) ≤ (↑k : Int) ∧ (↑k : Int).toNat < m) (VC.split (decide (IntKind.i64.wrap ((↑N : Int) - (1 : Int)) < (0 : Int))) (VC.stop [Item.ir ir41_C1, Item.ir ir41_E1, Item.ir (ir41_C2.seq ir41_C3), Item.bend (1 : Nat), Item.ir ir41_E2, Item.lend (I x), Item.bend (0 : Nat), Item.ir ir41_T2] (St.mk [((6 : Nat), AV.adr (6 : Nat) (0 : Nat)), ((7 : Nat), AV.p true (PV.v (Value.bool false))), ((11 : Nat), AV.adr (11 : Nat) (0 : Nat)), ((43 : Nat), AV.p true (PV.sl false (1 : Nat) m (RR (wL A) (hL A)))), ((44 : Nat), AV.p true (PV.v (Value.int IntKind.i64 (↑m : Int)))), ((45 : Nat), AV.p true (PV.v (Value.int IntKind.i64 (↑k : Int)))), ((46 : Nat), AV.p true (PV.v (Value.bool (decide ((↑k : Int) < (↑m : Int)))))), ((13 : Nat), AV.p true (PV.sl false (1 : Nat) (wL A (↑k : Int).toNat) fun (j x_1 : Nat) => PI (hL A (↑k : Int).toNat j))), ((14 : Nat), AV.p true (PV.v (Value.int IntKind.i64 (IntKind.i64.wrap ((↑N : Int) - (1 : Int)))))), ((67 : Nat), AV.p true (PV.v (Value.bool true)))] [((6 : Nat), Ob.box [AV.p true (PV.v (Value.slice none (0 : Nat) (0 : Nat))), AV.p true (PV.v (Value.slice none (0 : Nat) (0 : Nat)))]), ((1020 : Nat), Ob.row Mode.u true (1 : Nat) (3 : Nat) (TR (gNm s1)) []), ((11 : Nat), Ob.box [AV.own (1020 : Nat), AV.own (12 : Nat)]), ((12 : Nat), Ob.row Mode.u false (1 : Nat) N (R3 H) [])])) (VC.need ((0 : Int) ≤ IntKind.i64.wrap ((↑N : Int) - (1 : Int)) ∧ (IntKind.i64.wrap ((↑N : Int) - (1 : Int))).toNat < N) (VC.need ((IntKind.i64.wrap ((↑N : Int) - (1 : Int))).toNat < N) (VC.need ((0 : Int) ≤ (0 : Int) ∧ Int.toNat (0 : Int) < (3 : Nat)) (VC.need ((0 : Nat) < (3 : Nat)) (VC.need ((0 : Int) ≤ (0 : Int) ∧ Int.toNat (0 : Int) < wL A (↑k : Int).toNat) (VC.split (H (IntKind.i64.wrap ((↑N : Int) - (1 : Int))).toNat (0 : Nat) != hL A (↑k : Int).toNat (Int.toNat (0 : Int))) (VC.stop [Item.ir ir41_C1, Item.ir ir41_E1, Item.ir (ir41_C2.seq ir41_C3), Item.bend (1 : Nat), Item.ir ir41_E2, Item.lend (I x), Item.bend (0 : Nat), Item.ir ir41_T2] (St.mk [((6 : Nat), AV.adr (6 : Nat) (0 : Nat)), ((7 : Nat), AV.p true (PV.v (Value.bool false))), ((11 : Nat), AV.adr (11 : Nat) (0 : Nat)), ((43 : Nat), AV.p true (PV.sl false (1 : Nat) m (RR (wL A) (hL A)))), ((44 : Nat), AV.p true (PV.v (Value.int IntKind.i64 (↑m : Int)))), ((45 : Nat), AV.p true (PV.v (Value.int IntKind.i64 (↑k : Int)))), ((46 : Nat), AV.p true (PV.v (Value.bool (decide ((↑k : Int) < (↑m : Int)))))), ((13 : Nat), AV.p true (PV.sl false (1 : Nat) (wL A (↑k : Int).toNat) fun (j x_1 : Nat) => PI (hL A (↑k : Int).toNat j))), ((14 : Nat), AV.p true (PV.v (Value.int IntKind.i64 (IntKind.i64.wrap ((↑N : Int) - (1 : Int)))))), ((67 : Nat), AV.p true (PV.v (Value.bool (H (IntKind.i64.wrap ((↑N : Int) - (1 : Int))).toNat (0 : Nat) != hL A (↑k : Int).toNat (Int.toNat (0 : Int))))))] [((6 : Nat), Ob.box [AV.p true (PV.v (Value.slice none (0 : Nat) (0 : Nat))), AV.p true (PV.v (Value.slice none (0 : Nat) (0 : Nat)))]), ((1020 : Nat), Ob.row Mode.u true (1 : Nat) (3 : Nat) (TR (gNm s1)) []), ((11 : Nat), Ob.box [AV.own (1020 : Nat), AV.own (12 : Nat)]), ((12 : Nat), Ob.row Mode.u false (1 : Nat) N (cellSet (R3 H) (IntKind.i64.wrap ((↑N : Int) - (1 : Int))).toNat (nat_lit 0) (PV.sl false (1 : Nat) (3 : Nat) fun (j x_1 : Nat) => PI (H (IntKind.i64.wrap ((↑N : Int) - (1 : Int))).toNat j))) [])])) (VC.stop [Item.ir ir41_C2, Item.ir ir41_C3, Item.bend (1 : Nat), Item.ir ir41_E2, Item.lend (I x), Item.bend (0 : Nat), Item.ir ir41_T2] (St.mk [((6 : Nat), AV.adr (6 : Nat) (0 : Nat)), ((7 : Nat), AV.p true (PV.v (Value.bool false))), ((11 : Nat), AV.adr (11 : Nat) (0 : Nat)), ((43 : Nat), AV.p true (PV.sl false (1 : Nat) m (RR (wL A) (hL A)))), ((44 : Nat), AV.p true (PV.v (Value.int IntKind.i64 (↑m : Int)))), ((45 : Nat), AV.p true (PV.v (Value.int IntKind.i64 (↑k : Int)))), ((46 : Nat), AV.p true (PV.v (Value.bool (decide ((↑k : Int) < (↑m : Int)))))), ((13 : Nat), AV.p true (PV.sl false (1 : Nat) (wL A (↑k : Int).toNat) fun (j x_1 : Nat) => PI (hL A (↑k : Int).toNat j))), ((14 : Nat), AV.p true (PV.v (Value.int IntKind.i64 (IntKind.i64.wrap ((↑N : Int) - (1 : Int)))))), ((67 : Nat), AV.p true (PV.v (Value.bool (H (IntKind.i64.wrap ((↑N : Int) - (1 : Int))).toNat (0 : Nat) != hL A (↑k : Int).toNat (Int.toNat (0 : Int))))))] [((6 : Nat), Ob.box [AV.p true (PV.v (Value.slice none (0 : Nat) (0 : Nat))), AV.p true (PV.v (Value.slice none (0 : Nat) (0 : Nat)))]), ((1020 : Nat), Ob.row Mode.u true (1 : Nat) (3 : Nat) (TR (gNm s1)) []), ((11 : Nat), Ob.box [AV.own (1020 : Nat), AV.own (12 : Nat)]), ((12 : Nat), Ob.row Mode.u false (1 : Nat) N (cellSet (R3 H) (IntKind.i64.wrap ((↑N : Int) - (1 : Int))).toNat (nat_lit 0) (PV.sl false (1 : Nat) (3 : Nat) fun (j x_1 : Nat) => PI (H (IntKind.i64.wrap ((↑N : Int) - (1 : Int))).toNat j))) [])])))))))))) (VC.call (37 : Nat) [AV.ag [AV.p false (PV.sl true (1 : Nat) (3 : Nat) (TR (gNm s1))), AV.p false (PV.sl false (1 : Nat) N (R3 H))]] [] (AB (tableB (3 : Nat) (gNm s1) N (fun (x_1 : Nat) => (3 : Nat)) H)) [] (VC.split (!tableB (3 : Nat) (gNm s1) N (fun (x_1 : Nat) => (3 : Nat)) H) (VC.done (St.mk [((6 : Nat), AV.adr (6 : Nat) (0 : Nat)), ((7 : Nat), AV.p true (PV.v (Value.bool false))), ((11 : Nat), AV.adr (11 : Nat) (0 : Nat)), ((43 : Nat), AV.p true (PV.sl false (1 : Nat) m (RR (wL A) (hL A)))), ((44 : Nat), AV.p true (PV.v (Value.int IntKind.i64 (↑m : Int)))), ((45 : Nat), AV.p true (PV.v (Value.int IntKind.i64 (↑k : Int)))), ((46 : Nat), AV.p true (PV.v (Value.bool (decide ((↑k : Int) < (↑m : Int)))))), ((103 : Nat), AV.p true (PV.v (Value.bool !tableB (3 : Nat) (gNm s1) N (fun (x_1 : Nat) => (3 : Nat)) H)))] [((6 : Nat), Ob.box [AV.p true (PV.v (Value.slice none (0 : Nat) (0 : Nat))), AV.p true (PV.v (Value.slice none (0 : Nat) (0 : Nat)))]), ((1020 : Nat), Ob.row Mode.u true (1 : Nat) (3 : Nat) (TR (gNm s1)) []), ((11 : Nat), Ob.box [AV.own (1020 : Nat), AV.own (12 : Nat)]), ((12 : Nat), Ob.row Mode.u false (1 : Nat) N (R3 H) [])])) (VC.done (St.mk [((6 : Nat), AV.adr (6 : Nat) (0 : Nat)), ((7 : Nat), AV.p true (PV.v (Value.bool true))), ((11 : Nat), AV.adr (11 : Nat) (0 : Nat)), ((43 : Nat), AV.p true (PV.sl false (1 : Nat) m (RR (wL A) (hL A)))), ((44 : Nat), AV.p true (PV.v (Value.int IntKind.i64 (↑m : Int)))), ((45 : Nat), AV.p true (PV.v (Value.int IntKind.i64 (↑k : Int)))), ((46 : Nat), AV.p true (PV.v (Value.bool (decide ((↑k : Int) < (↑m : Int)))))), ((103 : Nat), AV.p true (PV.v (Value.bool !tableB (3 : Nat) (gNm s1) N (fun (x_1 : Nat) => (3 : Nat)) H)))] [((6 : Nat), Ob.box [AV.own (1020 : Nat), AV.own (12 : Nat)]), ((1020 : Nat), Ob.row Mode.u true (1 : Nat) (3 : Nat) (TR (gNm s1)) []), ((11 : Nat), Ob.box [AV.own (1020 : Nat), AV.own (12 : Nat)]), ((12 : Nat), Ob.row Mode.u false (1 : Nat) N (R3 H) [])])))) := by intros; kernel_rfl
def st_iC (s1 : ByteArray) (m : Nat) (A : List (List Int)) (k N : Nat) (H : Nat → Nat → Int) (l : Int) : St := ⟨[(6, .adr 6 0), (7, AB false), (11, .adr 11 0), (13, FR (wL A k) (hL A k)), (14, AI l), (43, .p true (.sl false 1 m (RR (wL A) (hL A)))), (44, AI m), (45, AI k)], [(6, .box [nilT, nilT]), (1020, .row .u true 1 3 (TR (gNm s1)) []), (11, .box [.own 1020, .own 12]), (12, .row .u false 1 N (R3 H) [])]⟩
theorem evr_iC1 : ∀ (s1 : ByteArray) (m : Nat) (A : List (List Int)) (k N : Nat) (H : Nat → Nat → Int) (l : Int) (I : Nat × List Gr → St → Prop) (x : Nat × List Gr), ev G0 res41 [] (3000 : Nat) (Or.stop (20 : Nat)) [Item.ir ir41_C1, Item.ir ir41_E1, Item.ir (ir41_C2.seq ir41_C3), Item.bend (1 : Nat), Item.ir ir41_E2, Item.lend (I x), Item.bend (0 : Nat), Item.ir ir41_T2] (st_iC s1 m A k N H l) = VC.need ((0 : Int) ≤ (0 : Int) ∧ Int.toNat (0 : Int) < wL A k) (VC.need (((N + (1 : Nat)) * (24 : Nat) ≤ (140737488355328 : Nat) ∧ (↑(N + (1 : Nat)) : Int) ≤ (9223372036854775807 : Int)) ∧ allOne (1 : Nat) (1 : Nat) (setG [((0 : Nat), (0 : Nat), PV.sl true (1 : Nat) (3 : Nat) fun (i x_1 : Nat) => PV.v (Value.int IntKind.i64 (litI [hL A k (Int.toNat (0 : Int)), (0 : Int), (0 : Int)] i)))] fun (x_1 j : Nat) => PV.v ([Value.slice none (0 : Nat) (0 : Nat)].getD j undef))) (VC.stop [Item.ir ir41_C2, Item.ir ir41_C3, Item.bend (1 : Nat), Item.ir ir41_E2, Item.lend (I x), Item.bend (0 : Nat), Item.ir ir41_T2] (St.mk [((6 : Nat), AV.adr (6 : Nat) (0 : Nat)), ((7 : Nat), AV.p true (PV.v (Value.bool false))), ((11 : Nat), AV.adr (11 : Nat) (0 : Nat)), ((13 : Nat), AV.p true (PV.sl false (1 : Nat) (wL A k) fun (j x_1 : Nat) => PI (hL A k j))), ((14 : Nat), AV.p true (PV.v (Value.int IntKind.i64 (IntKind.i64.wrap (l + (1 : Int)))))), ((43 : Nat), AV.p true (PV.sl false (1 : Nat) m (RR (wL A) (hL A)))), ((44 : Nat), AV.p true (PV.v (Value.int IntKind.i64 (↑m : Int)))), ((45 : Nat), AV.p true (PV.v (Value.int IntKind.i64 (↑k : Int))))] [((6 : Nat), Ob.box [AV.p true (PV.v (Value.slice none (0 : Nat) (0 : Nat))), AV.p true (PV.v (Value.slice none (0 : Nat) (0 : Nat)))]), ((1020 : Nat), Ob.row Mode.u true (1 : Nat) (3 : Nat) (TR (gNm s1)) []), ((11 : Nat), Ob.box [AV.own (1020 : Nat), AV.own (75 : Nat)]), ((75 : Nat), Ob.row Mode.u false (1 : Nat) (N + (1 : Nat)) (fun (a b : Nat) => if a < N then R3 H a b else setG [((0 : Nat), (0 : Nat), PV.sl true (1 : Nat) (3 : Nat) fun (i x_1 : Nat) => PV.v (Value.int IntKind.i64 (litI [hL A k (Int.toNat (0 : Int)), (0 : Int), (0 : Int)] i)))] (fun (x_1 j : Nat) => PV.v ([Value.slice none (0 : Nat) (0 : Nat)].getD j undef)) (a - N) b) [])]))) := by intros; kernel_rfl
theorem evr_iC2 : ∀ (s1 : ByteArray) (m : Nat) (A : List (List Int)) (k N : Nat) (H : Nat → Nat → Int) (l : Int) (I : Nat × List Gr → St → Prop) (x : Nat × List Gr), ev G0 res41 [] (3000 : Nat) (Or.stop (13 : Nat)) [Item.ir ir41_C2, Item.ir ir41_C3, Item.bend (1 : Nat), Item.ir ir41_E2, Item.lend (I x), Item.bend (0 : Nat), Item.ir ir41_T2] (st_iC s1 m A k N H l) = VC.need ((0 : Int) ≤ l ∧ l.toNat < N) (VC.need (l.toNat < N) (VC.need ((0 : Int) ≤ (1 : Int) ∧ Int.toNat (1 : Int) < (3 : Nat)) (VC.need ((1 : Nat) < (3 : Nat)) (VC.need ((0 : Int) ≤ (1 : Int) ∧ Int.toNat (1 : Int) < (3 : Nat)) (VC.need ((1 : Nat) < (3 : Nat)) (VC.stop [Item.ir ir41_C3, Item.bend (1 : Nat), Item.ir ir41_E2, Item.lend (I x), Item.bend (0 : Nat), Item.ir ir41_T2] (St.mk [((6 : Nat), AV.adr (6 : Nat) (0 : Nat)), ((7 : Nat), AV.p true (PV.v (Value.bool false))), ((11 : Nat), AV.adr (11 : Nat) (0 : Nat)), ((13 : Nat), AV.p true (PV.sl false (1 : Nat) (wL A k) fun (j x_1 : Nat) => PI (hL A k j))), ((14 : Nat), AV.p true (PV.v (Value.int IntKind.i64 l))), ((43 : Nat), AV.p true (PV.sl false (1 : Nat) m (RR (wL A) (hL A)))), ((44 : Nat), AV.p true (PV.v (Value.int IntKind.i64 (↑m : Int)))), ((45 : Nat), AV.p true (PV.v (Value.int IntKind.i64 (↑k : Int))))] [((6 : Nat), Ob.box [AV.p true (PV.v (Value.slice none (0 : Nat) (0 : Nat))), AV.p true (PV.v (Value.slice none (0 : Nat) (0 : Nat)))]), ((1020 : Nat), Ob.row Mode.u true (1 : Nat) (3 : Nat) (TR (gNm s1)) []), ((11 : Nat), Ob.box [AV.own (1020 : Nat), AV.own (12 : Nat)]), ((12 : Nat), Ob.row Mode.u false (1 : Nat) N (cellSet (R3 H) l.toNat (nat_lit 0) (PV.sl false (1 : Nat) (3 : Nat) (setG [((1 : Nat), (0 : Nat), PV.v (Value.int IntKind.i64 (IntKind.i64.wrap (H l.toNat (1 : Nat) + (1 : Int)))))] fun (j x_1 : Nat) => PI (H l.toNat j)))) [])]))))))) := by intros; kernel_rfl
theorem evr_iC3 : ∀ (s1 : ByteArray) (m : Nat) (A : List (List Int)) (k N : Nat) (H : Nat → Nat → Int) (l : Int) (I : Nat × List Gr → St → Prop) (x : Nat × List Gr), ev G0 res41 [] (3000 : Nat) Or.nil [Item.ir ir41_C3, Item.bend (1 : Nat), Item.ir ir41_E2, Item.lend (I x), Item.bend (0 : Nat), Item.ir ir41_T2] (st_iC s1 m A k N H l) = VC.need ((0 : Int) ≤ l ∧ l.toNat < N) (VC.need (l.toNat < N) (VC.need ((0 : Int) ≤ (2 : Int) ∧ Int.toNat (2 : Int) < (3 : Nat)) (VC.need ((2 : Nat) < (3 : Nat)) (VC.need ((0 : Int) ≤ (1 : Int) ∧ Int.toNat (1 : Int) < wL A k) (VC.need ((0 : Int) ≤ (2 : Int) ∧ Int.toNat (2 : Int) < (3 : Nat)) (VC.need ((2 : Nat) < (3 : Nat)) (VC.lend (I x) (St.mk [((6 : Nat), AV.adr (6 : Nat) (0 : Nat)), ((7 : Nat), AV.p true (PV.v (Value.bool false))), ((11 : Nat), AV.adr (11 : Nat) (0 : Nat)), ((13 : Nat), AV.p true (PV.sl false (1 : Nat) (wL A k) fun (j x_1 : Nat) => PI (hL A k j))), ((14 : Nat), AV.p true (PV.v (Value.int IntKind.i64 l))), ((43 : Nat), AV.p true (PV.sl false (1 : Nat) m (RR (wL A) (hL A)))), ((44 : Nat), AV.p true (PV.v (Value.int IntKind.i64 (↑m : Int)))), ((45 : Nat), AV.p true (PV.v (Value.int IntKind.i64 (IntKind.i64.wrap ((↑k : Int) + (1 : Int))))))] [((6 : Nat), Ob.box [AV.p true (PV.v (Value.slice none (0 : Nat) (0 : Nat))), AV.p true (PV.v (Value.slice none (0 : Nat) (0 : Nat)))]), ((1020 : Nat), Ob.row Mode.u true (1 : Nat) (3 : Nat) (TR (gNm s1)) []), ((11 : Nat), Ob.box [AV.own (1020 : Nat), AV.own (12 : Nat)]), ((12 : Nat), Ob.row Mode.u false (1 : Nat) N (cellSet (R3 H) l.toNat (nat_lit 0) (PV.sl false (1 : Nat) (3 : Nat) (setG [((2 : Nat), (0 : Nat), PV.v (Value.int IntKind.i64 (IntKind.i64.wrap (H l.toNat (2 : Nat) + hL A k (Int.toNat (1 : Int))))))] fun (j x_1 : Nat) => PI (H l.toNat j)))) [])])))))))) := by intros; kernel_rfl
/-! ### the groups of a table -/
theorem R3_same {H : Nat → Nat → Int} {l : Nat} (i : Nat) : PV.Le (cellSet (R3 H) l 0 (.sl false 1 3 fun j _ => PI (H l j)) i 0) (R3 H i 0) := by
  by_cases e : i = l
  · subst e; simp only [cellSet, and_self, if_true]; exact .refl _
  · simp only [cellSet, e, and_false, if_false]; exact .refl _
theorem R3_set {H H' : Nat → Nat → Int} {l c : Nat} {V : Int} (h1 : H' l c = V) (h2 : ∀ i j, j < 3 → ¬(i = l ∧ j = c) → H' i j = H i j) (i : Nat) : PV.Le (cellSet (R3 H) l 0 (.sl false 1 3 (setG [(c, 0, .v (.int .i64 V))] fun j _ => PI (H l j))) i 0) (R3 H' i 0) := by
  by_cases e : i = l
  · subst e
    simp only [cellSet, and_self, if_true, R3, RR]
    refine .sl _ _ (fun e => e) 1 _ _ _ _ rfl fun j b hj hb => ?_
    obtain rfl : b = 0 := by omega
    by_cases e2 : j = c
    · subst e2; simp only [setG, cellSet, and_self, if_true, h1]; exact .refl _
    · simp only [setG, cellSet, e2, and_false, if_false]
      rw [h2 i j hj (fun h => e2 h.2)]; exact .refl _
  · simp only [cellSet, e, and_false, if_false, R3, RR]
    refine .sl _ _ (fun e => e) 1 _ _ _ _ rfl fun j b hj hb => ?_
    rw [h2 i j hj (fun h => e h.1)]; exact .refl _
def gpL (m : Nat) (h : Nat → Nat → Int) (g s : Nat) : List Gr := grpL (prL m (fun i => h i g) (fun i => h i s))
abbrev gpA (n : Nat) (f : Nat → ByteArray) (m : Nat) (h : Nat → Nat → Int) (s1 s2 : ByteArray) : List Gr := gpL m h (colT f s1 n).toNat (colT f s2 n).toNat
def gpB (n : Nat) (f : Nat → ByteArray) (m : Nat) (w : Nat → Nat) (h : Nat → Nat → Int) (s1 s2 : ByteArray) : Bool := tableB n f m w h && gnB n f s1 s2 && tableB 3 (gNm s1) (gpA n f m h s1 s2).length (fun _ => 3) (hG (gpA n f m h s1 s2))
def gpN (n : Nat) (f : Nat → ByteArray) (m : Nat) (w : Nat → Nat) (h : Nat → Nat → Int) (s1 s2 : ByteArray) : Nat := if gpB n f m w h s1 s2 then 3 else 0
def gpM (n : Nat) (f : Nat → ByteArray) (m : Nat) (w : Nat → Nat) (h : Nat → Nat → Int) (s1 s2 : ByteArray) : Nat := if gpB n f m w h s1 s2 then (gpA n f m h s1 s2).length else 0
abbrev gpR (n : Nat) (f : Nat → ByteArray) (m : Nat) (w : Nat → Nat) (h : Nat → Nat → Int) (s1 s2 : ByteArray) : AV := .tp [taR, AB (gpB n f m w h s1 s2)]
abbrev gpH (n : Nat) (f : Nat → ByteArray) (m : Nat) (w : Nat → Nat) (h : Nat → Nat → Int) (s1 s2 : ByteArray) : List (Nat × Ob) := taH (gpN n f m w h s1 s2) (gNm s1) (gpM n f m w h s1 s2) (fun _ => 3) (hG (gpA n f m h s1 s2))
theorem gp_no {n : Nat} {f : Nat → ByteArray} {m : Nat} {w : Nat → Nat} {h : Nat → Nat → Int} {s1 s2 : ByteArray} (e : gpB n f m w h s1 s2 = false) : gpN n f m w h s1 s2 = 0 ∧ gpM n f m w h s1 s2 = 0 := by simp [gpN, gpM, e]
theorem gp_yes {n : Nat} {f : Nat → ByteArray} {m : Nat} {w : Nat → Nat} {h : Nat → Nat → Int} {s1 s2 : ByteArray} (e : gpB n f m w h s1 s2 = true) : gpN n f m w h s1 s2 = 3 ∧ gpM n f m w h s1 s2 = (gpA n f m h s1 s2).length := by simp [gpN, gpM, e]
theorem tab_m {n : Nat} {f : Nat → ByteArray} {m : Nat} {w : Nat → Nat} {h : Nat → Nat → Int} (ht : tableB n f m w h = true) : m ≤ 16 := by
  simp only [tableB, Bool.and_eq_true, decide_eq_true_eq] at ht
  exact ht.1.2
theorem tab_v {n : Nat} {f : Nat → ByteArray} {m : Nat} {w : Nat → Nat} {h : Nat → Nat → Int} (ht : tableB n f m w h = true) {i j : Nat} (hi : i < m) (hj : j < n) : -100000 ≤ h i j ∧ h i j ≤ 100000 := by
  have hw := tab_w ht i hi
  simp only [tableB, rowsB, Bool.and_eq_true] at ht
  have h1 := allB_iff.1 ht.2 i hi
  simp only [rowB, Bool.and_eq_true] at h1
  have h2 := allB_iff.1 h1.2 j (by omega)
  exact inB_iff.1 h2
theorem gNm_size {s1 : ByteArray} (h : s1.size ≤ 1048576) : ∀ i, i < 3 → (gNm s1 i).size ≤ 1048576 := fun i hi => by
  match i, hi with
  | 0, _ => exact h
  | 1, _ => exact (by decide : tCount.size ≤ 1048576)
  | 2, _ => exact (by decide : tTotal.size ≤ 1048576)
theorem gn_col {n : Nat} {f : Nat → ByteArray} {s1 s2 : ByteArray} (h : gnB n f s1 s2 = true) : 0 ≤ colT f s1 n ∧ 0 ≤ colT f s2 n := by
  simp only [gnB, Bool.and_eq_true] at h
  have h1 := colT_has f s1 n
  have h2 := colT_has f s2 n
  rw [h.1.1.1] at h1
  rw [h.1.1.2] at h2
  exact ⟨by simpa using h1, by simpa using h2⟩
theorem gp_of_pairs {n : Nat} {f : Nat → ByteArray} {m : Nat} {h : Nat → Nat → Int} {s1 s2 : ByteArray} {A : List (List Int)} (hA : A.Perm (tabL m (fun _ => 2) (tkH n f h (litS [s1, s2])))) : grpL (prL m (fun i => hL A i 0) (fun i => hL A i 1)) = gpA n f m h s1 s2 := by
  rw [prL_of (by rw [hA.length_eq, tabL_len])]
  refine (grpL_perm (hA.map _)).trans ?_
  exact congrArg grpL (pair_tab m (tkH n f h (litS [s1, s2])))
theorem c_imG (n : Nat) (f : Nat → ByteArray) (m : Nat) (w : Nat → Nat) (h : Nat → Nat → Int) (s1 s2 : ByteArray) (ok : TaOk n f m w) (hs : s1.size ≤ 1048576) : PObj Tryd.prog G0 41 [TA false false n f m w h, AT s1, AT s2] [] (gpR n f m w h s1 s2) (gpH n f m w h s1 s2) := by
  refine PObj.by chk41 rfl (ev_imG n f m w h s1 s2) ?_
  simp only [VC.holds_split, VC.holds_need, VC.holds_doneP, VC.holds_done, VC.holds_either, VC.holds_call, VC.holds_callE, VC.holds_lend, VC.holds_stop, VC.holds_fail, decide_eq_true_eq, decide_eq_false_iff_not]
  refine ⟨c_gN _ _ _ _ _ ok.hn, c_imTV _ _ _ _ _ _ _ ok.hn ok.hf ok.hm ok.hw, fun h1 => ?_, fun h1 => ⟨fun h2 => ?_, fun h2 => ?_⟩⟩
  · have e : gpB n f m w h s1 s2 = false := by simp only [gpB, (by simpa using h1 : tableB n f m w h = false), Bool.false_and]
    obtain ⟨e1, e2⟩ := gp_no e
    simp only [gpR, gpH, e, e1, e2]
    refine ResOk.mk [] [] [0, 1] _ _ ?_ ⟨rfl, rfl⟩
    simp [doneC, resOf, resAV, tup, pinR, PV.Le_self, hbs, St.lowers, St.lower, stLe, leEnv, leObs, obLe, injB, pinC, AV.leC, AV.leCs, PV.leC, PV.Le_v, St.get, St.obj, look, rho, isNew, keptC, renH, Mode.ok, Mode.isZ, PV.isVal, PV.isNilSl, List.all_nil, List.all_cons, List.any_nil, List.any_cons, List.map_nil, List.map_cons, res41]
  · have e : gpB n f m w h s1 s2 = false := by simp only [gpB, (by simpa using h2 : gnB n f s1 s2 = false), Bool.false_and, Bool.and_false]
    obtain ⟨e1, e2⟩ := gp_no e
    simp only [gpR, gpH, e, e1, e2]
    refine ResOk.mk [] [] [0, 1] _ _ ?_ ⟨rfl, rfl⟩
    simp [doneC, resOf, resAV, tup, pinR, PV.Le_self, hbs, St.lowers, St.lower, stLe, leEnv, leObs, obLe, injB, pinC, AV.leC, AV.leCs, PV.leC, PV.Le_v, St.get, St.obj, look, rho, isNew, keptC, renH, Mode.ok, Mode.isZ, PV.isVal, PV.isNilSl, List.all_nil, List.all_cons, List.any_nil, List.any_cons, List.map_nil, List.map_cons, res41]
  · have ht : tableB n f m w h = true := by simpa using h1
    have hg : gnB n f s1 s2 = true := by simpa using h2
    obtain ⟨hc1, hc2⟩ := gn_col hg
    have hm := tab_m ht
    have hw := tab_w ht
    refine ⟨c_tk2 _ _ _ _ _ _ _ _ _ ok.hn ok.hm hc1 hc2 (fun i hi => Nat.le_of_eq (hw i hi).symm), c_sortA _ _ _ _ ok.hm (fun _ _ => by decide), ?_⟩
    have hAp : (srtA m (fun _ => 2) (tkH n f h (litS [s1, s2]))).Perm (tabL m (fun _ => 2) (tkH n f h (litS [s1, s2]))) := List.mergeSort_perm _ _
    have hAs := srt_sorted lt_swo (tabL m (fun _ => 2) (tkH n f h (litS [s1, s2])))
    have hGp := gp_of_pairs hAp
    have hmem : ∀ r, r ∈ tabL m (fun _ => 2) (tkH n f h (litS [s1, s2])) → r.length = 2 ∧ -100000 ≤ r.getD 1 0 ∧ r.getD 1 0 ≤ 100000 := fun r hr => by
      simp only [tabL, List.mem_map, List.mem_range] at hr
      obtain ⟨i, hi, rfl⟩ := hr
      refine ⟨rowL_len, ?_⟩
      rw [rowL_get (show 1 < 2 by decide)]
      have := (colT_lt f s2 n).2
      exact tab_v ht hi (show (colT f (litS [s1, s2] 1) n).toNat < n by show (colT f s2 n).toNat < n; omega)
    generalize hAdef : srtA m (fun _ => 2) (tkH n f h (litS [s1, s2])) = A at *
    have hAl : A.length = m := by rw [hAp.length_eq, tabL_len]
    have hrow : ∀ i, i < m → wL A i = 2 ∧ -100000 ≤ hL A i 1 ∧ hL A i 1 ≤ 100000 := fun i hi => by
      refine hmem (A.getD i []) (hAp.mem_iff.1 ?_)
      rw [List.getD_eq_getElem?_getD, List.getElem?_eq_getElem (by omega), Option.getD_some]
      exact List.getElem_mem _
    have hmono : ∀ i j, i < j → j < m → hL A i 0 ≤ hL A j 0 := fun i j hij hj => by
      have h3 := List.pairwise_iff_getElem.1 (show A.Pairwise fun x y => ltL y x = false by rw [← hAdef]; exact hAs) i j (by omega) (by omega) hij
      have e1 : A.getD i [] = A[i]'(by omega) := by rw [List.getD_eq_getElem?_getD, List.getElem?_eq_getElem (by omega), Option.getD_some]
      have e2 : A.getD j [] = A[j]'(by omega) := by rw [List.getD_eq_getElem?_getD, List.getElem?_eq_getElem (by omega), Option.getD_some]
      have l1 := (hrow i (by omega)).1
      have l2 := (hrow j (by omega)).1
      simp only [wL] at l1 l2
      simp only [hL]
      rw [e1] at l1 ⊢
      rw [e2] at l2 ⊢
      exact lt_first (by omega) (by omega) h3
    refine loop_by (fun x : Nat × List Gr => st_iG s1 m A x.1 x.2.length (hG x.2)) (fun x => x.1 ≤ m ∧ x.2 = grpL (prL x.1 (fun i => hL A i 0) (fun i => hL A i 1))) (fun x => m - x.1) (0, []) [(1038, .f)] [] [12] ⟨Nat.zero_le _, rfl⟩ ?_ (fun I x => evr_iG s1 m A x.1 x.2.length (hG x.2) I x) fun x hx => ?_
    · simp [st_iG, hbs, St.lowers, St.lower, stLe, leEnv, leObs, obLe, injB, pinC, AV.leC, AV.leCs, PV.leC, PV.Le_v, St.get, St.obj, look, rho, isNew, keptC, renH, Mode.ok, Mode.isZ, PV.isVal, PV.isNilSl, List.all_nil, List.all_cons, List.any_nil, List.any_cons, List.map_nil, List.map_cons, PV.Le_self, Mode.low, St.setOb, ins]
    · obtain ⟨k, G⟩ := x
      obtain ⟨hk, hGk⟩ := hx
      simp only [] at hk hGk
      have ek : IntKind.i64.wrap ((k : Int) + 1) = ((k + 1 : Nat) : Int) := wrap_in (by omega) (by omega)
      have hok : GrOk (k : Int) G := hGk ▸ grp_ok fun i hi => (hrow i (by omega)).2
      have hasc : Asc G := hGk ▸ grp_asc _ _ k
      have hlen : G.length ≤ 16 := by
        have := grpL_len (prL k (fun i => hL A i 0) (fun i => hL A i 1))
        rw [← hGk] at this
        simp only [prL, List.length_map, List.length_range] at this
        omega
      simp only [VC.holds_split, VC.holds_need, VC.holds_doneP, VC.holds_done, VC.holds_either, VC.holds_call, VC.holds_callE, VC.holds_lend, VC.holds_stop, VC.holds_fail, decide_eq_true_eq, decide_eq_false_iff_not, Int.toNat_natCast]
      refine ⟨fun h0 => ⟨⟨by omega, by omega⟩, ?_⟩, fun h0 => ?_⟩
      · have hkm : k < m := by omega
        have hle : ∀ b, b ∈ G → b.a ≤ hL A k 0 := fun b hb => by
          rw [hGk] at hb
          obtain ⟨i, hi, e⟩ := grp_key hb
          rw [e]; exact hmono i k hi hkm
        have hnext : addG (hL A k 0) (hL A k 1) G = grpL (prL (k + 1) (fun i => hL A i 0) (fun i => hL A i 1)) := by rw [grp_succ, ← hGk]
        have hrk := hrow k hkm
        have okM : GrOk (k : Int) (midG (hL A k 0) G) := hok.mid (by omega) _
        have hadd0 := addG_eq (hL A k 0) (hL A k 1) G
        have hml := midG_len (hL A k 0) G
        have eN : IntKind.i64.wrap ((G.length : Int) - 1) = (G.length : Int) - 1 := wrap_in (by omega) (by omega)
        have eN2 : IntKind.i64.wrap ((G.length : Int) - 1 + 1) = (G.length : Int) := (wrap_in (by omega) (by omega)).trans (by omega)
        simp only [eN]
        have stepC1 : (∀ b, b ∈ G → b.a < hL A k 0) → atG (hL A k 0) G = G.length ∧ midG (hL A k 0) G = G ++ [⟨hL A k 0, 0, 0⟩] := at_end
        have hC1 : ∀ {X : Nat → Nat → PV}, (∀ b, b ∈ G → b.a < hL A k 0) → ∀ i, i < G.length + 1 → PV.Le (if i < G.length then R3 (hG G) i 0 else setG [(0, 0, .sl true 1 3 fun i _ => .v (.int .i64 (litI [hL A k 0, 0, 0] i)))] X (i - G.length) 0) (R3 (hG (midG (hL A k 0) G)) i 0) := fun {X} hlt i hi => by
          have hm2 := (at_end hlt).2
          rw [hm2]
          by_cases e : i < G.length
          · rw [if_pos e]
            exact RR_le rfl fun j hj => by rw [hG_app i j hi, if_pos e]
          · rw [if_neg e]
            obtain rfl : i = G.length := by omega
            simp only [Nat.sub_self, setG, cellSet, and_self, if_true, R3, RR]
            refine .sl _ _ (fun e => (by cases e)) 1 _ _ _ _ rfl fun j b hj hb => ?_
            rw [hG_app _ j hi, if_neg (Nat.lt_irrefl _)]
            match j, hj with
            | 0, _ => exact .refl _
            | 1, _ => exact .refl _
            | 2, _ => exact .refl _
        refine ⟨fun h3 => ?_, fun h3 => ?_⟩
        · -- no group yet
          have hN0 : G.length = 0 := by omega
          have hlt : ∀ b, b ∈ G → b.a < hL A k 0 := fun b hb => by
            have : G = [] := List.eq_nil_of_length_eq_zero hN0
            rw [this] at hb; cases hb
          obtain ⟨hat, hmid⟩ := at_end hlt
          have hMl : (midG (hL A k 0) G).length = G.length + 1 := by rw [hmid]; simp
          refine Go.Gw.M.by [] [] [] ?_ (evr_iC1 s1 m A k G.length (hG G) ((G.length : Int) - 1) _ _) ?_
          · simp [st_iC, hbs, St.lowers, St.lower, stLe, leEnv, leObs, obLe, injB, pinC, AV.leC, AV.leCs, PV.leC, PV.Le_v, St.get, St.obj, look, rho, isNew, keptC, renH, Mode.ok, Mode.isZ, PV.isVal, PV.isNilSl, List.all_nil, List.all_cons, List.any_nil, List.any_cons, List.map_nil, List.map_cons, PV.Le_self]
          · simp only [VC.holds_split, VC.holds_need, VC.holds_doneP, VC.holds_done, VC.holds_either, VC.holds_call, VC.holds_callE, VC.holds_lend, VC.holds_stop, VC.holds_fail, decide_eq_true_eq, decide_eq_false_iff_not, eN2]
            refine ⟨⟨by decide, by rw [hrk.1]; decide⟩, ⟨⟨by omega, by omega⟩, fun a b ha hb => ?_⟩, ?_⟩
            · obtain rfl : a = 0 := by omega
              obtain rfl : b = 0 := by omega
              rfl
            · have hX := fun X => @hC1 X hlt
              rw [hat] at hadd0 hml
              generalize midG (hL A k 0) G = M at *
              refine Go.Gw.M.by [] [(12, 75)] [] ?_ (evr_iC2 s1 m A k M.length (hG M) (G.length : Nat) _ _) ?_
              · rw [hMl]
                simp only [st_iC]
                generalize R3 (hG M) = XM at *
                simp [hbs, St.lowers, St.lower, stLe, leEnv, leObs, obLe, injB, pinC, AV.leC, AV.leCs, PV.leC, PV.Le_v, St.get, St.obj, look, rho, isNew, keptC, renH, Mode.ok, Mode.isZ, PV.isVal, PV.isNilSl, List.all_nil, List.all_cons, List.any_nil, List.any_cons, List.map_nil, List.map_cons, PV.Le_self]
                exact fun i hi => hX _ i hi
              · generalize hldef : G.length = l at *
                have hl : l < M.length := hml.2.2
                have hadd : addG (hL A k 0) (hL A k 1) G = M.set l ⟨(M.getD l g0).a, (M.getD l g0).c + 1, (M.getD l g0).t + hL A k 1⟩ := hadd0
                have hMle : M.length ≤ 17 := by omega
                simp only [Int.toNat_natCast]
                · -- the count
                  have e1 : IntKind.i64.wrap (hG M l 1 + 1) = (M.getD l g0).c + 1 := by
                    have := okM.get hl
                    show IntKind.i64.wrap ((M.getD l g0).c + 1) = _
                    exact wrap_in (by omega) (by omega)
                  simp only [VC.holds_split, VC.holds_need, VC.holds_doneP, VC.holds_done, VC.holds_either, VC.holds_call, VC.holds_callE, VC.holds_lend, VC.holds_stop, VC.holds_fail, decide_eq_true_eq, decide_eq_false_iff_not, Int.toNat_natCast, e1]
                  refine ⟨⟨by omega, by omega⟩, by omega, ⟨by decide, by decide⟩, by decide, ⟨by decide, by decide⟩, by decide, ?_⟩
                  have hl2 : l < (M.set l ⟨(M.getD l g0).a, (M.getD l g0).c + 1, (M.getD l g0).t⟩).length := by simpa using hl
                  have hs1 : ∀ i, PV.Le (cellSet (R3 (hG M)) l 0 (.sl false 1 3 (setG [(1, 0, .v (.int .i64 ((M.getD l g0).c + 1)))] fun j _ => PI (hG M l j))) i 0) (R3 (hG (M.set l ⟨(M.getD l g0).a, (M.getD l g0).c + 1, (M.getD l g0).t⟩)) i 0) := R3_set (by rw [hG_set hl, if_pos rfl]; rfl) fun i j hj hij => by
                    rw [hG_set hl]
                    by_cases hi : i = l
                    · subst hi
                      rw [if_pos rfl]
                      match j, hj with
                      | 0, _ => rfl
                      | 1, _ => simp at hij
                      | 2, _ => rfl
                    · rw [if_neg hi]
                  have el2 : (M.set l ⟨(M.getD l g0).a, (M.getD l g0).c + 1, (M.getD l g0).t⟩).length = M.length := by simp
                  have eS : (M.set l ⟨(M.getD l g0).a, (M.getD l g0).c + 1, (M.getD l g0).t⟩).getD l g0 = ⟨(M.getD l g0).a, (M.getD l g0).c + 1, (M.getD l g0).t⟩ := by
                    rw [List.getD_eq_getElem?_getD, List.getElem?_set_self hl]; rfl
                  have hN2 : (M.set l ⟨(M.getD l g0).a, (M.getD l g0).c + 1, (M.getD l g0).t⟩).set l ⟨(M.getD l g0).a, (M.getD l g0).c + 1, (M.getD l g0).t + hL A k 1⟩ = M.set l ⟨(M.getD l g0).a, (M.getD l g0).c + 1, (M.getD l g0).t + hL A k 1⟩ := List.set_set ..
                  generalize hMdef : M.set l ⟨(M.getD l g0).a, (M.getD l g0).c + 1, (M.getD l g0).t⟩ = M1 at *
                  refine Go.Gw.M.by [] [] [] ?_ (evr_iC3 s1 m A k M.length (hG M1) l _ _) ?_
                  · simp only [st_iC]
                    generalize R3 (hG M1) = X1 at *
                    simp [hbs, St.lowers, St.lower, stLe, leEnv, leObs, obLe, injB, pinC, AV.leC, AV.leCs, PV.leC, PV.Le_v, St.get, St.obj, look, rho, isNew, keptC, renH, Mode.ok, Mode.isZ, PV.isVal, PV.isNilSl, List.all_nil, List.all_cons, List.any_nil, List.any_cons, List.map_nil, List.map_cons, PV.Le_self]
                    exact fun i hi => hs1 i
                  · have e2 : IntKind.i64.wrap (hG M1 l 2 + hL A k (Int.toNat 1)) = (M.getD l g0).t + hL A k 1 := by
                      have := okM.get hl
                      show IntKind.i64.wrap ((M1.getD l g0).t + hL A k 1) = _
                      rw [eS]
                      exact wrap_in (by simp only []; omega) (by simp only []; omega)
                    simp only [VC.holds_split, VC.holds_need, VC.holds_doneP, VC.holds_done, VC.holds_either, VC.holds_call, VC.holds_callE, VC.holds_lend, VC.holds_stop, VC.holds_fail, decide_eq_true_eq, decide_eq_false_iff_not, Int.toNat_natCast, e2]
                    refine ⟨⟨by omega, by omega⟩, by omega, ⟨by decide, by decide⟩, by decide, ⟨by decide, by rw [(hrow k (by omega)).1]; decide⟩, ⟨by decide, by decide⟩, by decide, Again.mk (k + 1, addG (hL A k 0) (hL A k 1) G) [] [] [] ⟨by simp only []; omega, hnext⟩ (by simp only []; omega) ?_⟩
                    have hs2 : ∀ i, PV.Le (cellSet (R3 (hG M1)) l 0 (.sl false 1 3 (setG [(2, 0, .v (.int .i64 ((M.getD l g0).t + hL A k 1)))] fun j _ => PI (hG M1 l j))) i 0) (R3 (hG (addG (hL A k 0) (hL A k 1) G)) i 0) := R3_set (by rw [hadd, ← hN2, hG_set hl2, if_pos rfl]; rfl) fun i j hj hij => by
                      rw [hadd, ← hN2, hG_set hl2]
                      by_cases hi : i = l
                      · subst hi
                        rw [if_pos rfl]
                        show _ = (M1.getD i g0).col j
                        rw [eS]
                        match j, hj with
                        | 0, _ => rfl
                        | 1, _ => rfl
                        | 2, _ => simp at hij
                      · rw [if_neg hi]
                    have el3 : (addG (hL A k 0) (hL A k 1) G).length = M.length := by rw [hadd]; simp
                    simp only [st_iG, el3]
                    generalize R3 (hG (addG (hL A k 0) (hL A k 1) G)) = X2 at *
                    generalize R3 (hG M1) = X1 at *
                    simp [hbs, St.lowers, St.lower, stLe, leEnv, leObs, obLe, injB, pinC, AV.leC, AV.leCs, PV.leC, PV.Le_v, St.get, St.obj, look, rho, isNew, keptC, renH, Mode.ok, Mode.isZ, PV.isVal, PV.isNilSl, List.all_nil, List.all_cons, List.any_nil, List.any_cons, List.map_nil, List.map_cons, PV.Le_self, ek]
                    exact fun i hi => hs2 i
        · have hN1 : 0 < G.length := by omega
          have ei : ((G.length : Int) - 1).toNat = G.length - 1 := by omega
          have hsame : ∀ i, PV.Le (cellSet (R3 (hG G)) (G.length - 1) 0 (.sl false 1 3 fun j _ => PI (hG G (G.length - 1) j)) i 0) (R3 (hG G) i 0) := R3_same
          simp only [ei]
          refine ⟨⟨by omega, by omega⟩, by omega, ⟨by decide, by decide⟩, by decide, ⟨by decide, by rw [hrk.1]; decide⟩, fun h4 => ?_, fun h4 => ?_⟩
          · -- a new group
            have h4' : (G.getD (G.length - 1) g0).a ≠ hL A k 0 := by
              have : (hG G (G.length - 1) 0 != hL A k 0) = true := h4
              simpa [hG, Gr.col] using this
            have hlt := asc_lt hasc hN1 hle h4'
            obtain ⟨hat, hmid⟩ := at_end hlt
            have hMl : (midG (hL A k 0) G).length = G.length + 1 := by rw [hmid]; simp
            refine Go.Gw.M.by [] [] [] ?_ (evr_iC1 s1 m A k G.length (hG G) ((G.length : Int) - 1) _ _) ?_
            · simp only [st_iC]
              generalize R3 (hG G) = XG at *
              simp [hbs, St.lowers, St.lower, stLe, leEnv, leObs, obLe, injB, pinC, AV.leC, AV.leCs, PV.leC, PV.Le_v, St.get, St.obj, look, rho, isNew, keptC, renH, Mode.ok, Mode.isZ, PV.isVal, PV.isNilSl, List.all_nil, List.all_cons, List.any_nil, List.any_cons, List.map_nil, List.map_cons, PV.Le_self]
              exact fun i hi => hsame i
            · simp only [VC.holds_split, VC.holds_need, VC.holds_doneP, VC.holds_done, VC.holds_either, VC.holds_call, VC.holds_callE, VC.holds_lend, VC.holds_stop, VC.holds_fail, decide_eq_true_eq, decide_eq_false_iff_not, eN2]
              refine ⟨⟨by decide, by rw [hrk.1]; decide⟩, ⟨⟨by omega, by omega⟩, fun a b ha hb => ?_⟩, ?_⟩
              · obtain rfl : a = 0 := by omega
                obtain rfl : b = 0 := by omega
                rfl
              · have hX := fun X => @hC1 X hlt
                rw [hat] at hadd0 hml
                generalize midG (hL A k 0) G = M at *
                refine Go.Gw.M.by [] [(12, 75)] [] ?_ (evr_iC2 s1 m A k M.length (hG M) (G.length : Nat) _ _) ?_
                · rw [hMl]
                  simp only [st_iC]
                  generalize R3 (hG M) = XM at *
                  simp [hbs, St.lowers, St.lower, stLe, leEnv, leObs, obLe, injB, pinC, AV.leC, AV.leCs, PV.leC, PV.Le_v, St.get, St.obj, look, rho, isNew, keptC, renH, Mode.ok, Mode.isZ, PV.isVal, PV.isNilSl, List.all_nil, List.all_cons, List.any_nil, List.any_cons, List.map_nil, List.map_cons, PV.Le_self]
                  exact fun i hi => hX _ i hi
                · generalize hldef : G.length = l at *
                  have hl : l < M.length := hml.2.2
                  have hadd : addG (hL A k 0) (hL A k 1) G = M.set l ⟨(M.getD l g0).a, (M.getD l g0).c + 1, (M.getD l g0).t + hL A k 1⟩ := hadd0
                  have hMle : M.length ≤ 17 := by omega
                  simp only [Int.toNat_natCast]
                  · -- the count
                    have e1 : IntKind.i64.wrap (hG M l 1 + 1) = (M.getD l g0).c + 1 := by
                      have := okM.get hl
                      show IntKind.i64.wrap ((M.getD l g0).c + 1) = _
                      exact wrap_in (by omega) (by omega)
                    simp only [VC.holds_split, VC.holds_need, VC.holds_doneP, VC.holds_done, VC.holds_either, VC.holds_call, VC.holds_callE, VC.holds_lend, VC.holds_stop, VC.holds_fail, decide_eq_true_eq, decide_eq_false_iff_not, Int.toNat_natCast, e1]
                    refine ⟨⟨by omega, by omega⟩, by omega, ⟨by decide, by decide⟩, by decide, ⟨by decide, by decide⟩, by decide, ?_⟩
                    have hl2 : l < (M.set l ⟨(M.getD l g0).a, (M.getD l g0).c + 1, (M.getD l g0).t⟩).length := by simpa using hl
                    have hs1 : ∀ i, PV.Le (cellSet (R3 (hG M)) l 0 (.sl false 1 3 (setG [(1, 0, .v (.int .i64 ((M.getD l g0).c + 1)))] fun j _ => PI (hG M l j))) i 0) (R3 (hG (M.set l ⟨(M.getD l g0).a, (M.getD l g0).c + 1, (M.getD l g0).t⟩)) i 0) := R3_set (by rw [hG_set hl, if_pos rfl]; rfl) fun i j hj hij => by
                      rw [hG_set hl]
                      by_cases hi : i = l
                      · subst hi
                        rw [if_pos rfl]
                        match j, hj with
                        | 0, _ => rfl
                        | 1, _ => simp at hij
                        | 2, _ => rfl
                      · rw [if_neg hi]
                    have el2 : (M.set l ⟨(M.getD l g0).a, (M.getD l g0).c + 1, (M.getD l g0).t⟩).length = M.length := by simp
                    have eS : (M.set l ⟨(M.getD l g0).a, (M.getD l g0).c + 1, (M.getD l g0).t⟩).getD l g0 = ⟨(M.getD l g0).a, (M.getD l g0).c + 1, (M.getD l g0).t⟩ := by
                      rw [List.getD_eq_getElem?_getD, List.getElem?_set_self hl]; rfl
                    have hN2 : (M.set l ⟨(M.getD l g0).a, (M.getD l g0).c + 1, (M.getD l g0).t⟩).set l ⟨(M.getD l g0).a, (M.getD l g0).c + 1, (M.getD l g0).t + hL A k 1⟩ = M.set l ⟨(M.getD l g0).a, (M.getD l g0).c + 1, (M.getD l g0).t + hL A k 1⟩ := List.set_set ..
                    generalize hMdef : M.set l ⟨(M.getD l g0).a, (M.getD l g0).c + 1, (M.getD l g0).t⟩ = M1 at *
                    refine Go.Gw.M.by [] [] [] ?_ (evr_iC3 s1 m A k M.length (hG M1) l _ _) ?_
                    · simp only [st_iC]
                      generalize R3 (hG M1) = X1 at *
                      simp [hbs, St.lowers, St.lower, stLe, leEnv, leObs, obLe, injB, pinC, AV.leC, AV.leCs, PV.leC, PV.Le_v, St.get, St.obj, look, rho, isNew, keptC, renH, Mode.ok, Mode.isZ, PV.isVal, PV.isNilSl, List.all_nil, List.all_cons, List.any_nil, List.any_cons, List.map_nil, List.map_cons, PV.Le_self]
                      exact fun i hi => hs1 i
                    · have e2 : IntKind.i64.wrap (hG M1 l 2 + hL A k (Int.toNat 1)) = (M.getD l g0).t + hL A k 1 := by
                        have := okM.get hl
                        show IntKind.i64.wrap ((M1.getD l g0).t + hL A k 1) = _
                        rw [eS]
                        exact wrap_in (by simp only []; omega) (by simp only []; omega)
                      simp only [VC.holds_split, VC.holds_need, VC.holds_doneP, VC.holds_done, VC.holds_either, VC.holds_call, VC.holds_callE, VC.holds_lend, VC.holds_stop, VC.holds_fail, decide_eq_true_eq, decide_eq_false_iff_not, Int.toNat_natCast, e2]
                      refine ⟨⟨by omega, by omega⟩, by omega, ⟨by decide, by decide⟩, by decide, ⟨by decide, by rw [(hrow k (by omega)).1]; decide⟩, ⟨by decide, by decide⟩, by decide, Again.mk (k + 1, addG (hL A k 0) (hL A k 1) G) [] [] [] ⟨by simp only []; omega, hnext⟩ (by simp only []; omega) ?_⟩
                      have hs2 : ∀ i, PV.Le (cellSet (R3 (hG M1)) l 0 (.sl false 1 3 (setG [(2, 0, .v (.int .i64 ((M.getD l g0).t + hL A k 1)))] fun j _ => PI (hG M1 l j))) i 0) (R3 (hG (addG (hL A k 0) (hL A k 1) G)) i 0) := R3_set (by rw [hadd, ← hN2, hG_set hl2, if_pos rfl]; rfl) fun i j hj hij => by
                        rw [hadd, ← hN2, hG_set hl2]
                        by_cases hi : i = l
                        · subst hi
                          rw [if_pos rfl]
                          show _ = (M1.getD i g0).col j
                          rw [eS]
                          match j, hj with
                          | 0, _ => rfl
                          | 1, _ => rfl
                          | 2, _ => simp at hij
                        · rw [if_neg hi]
                      have el3 : (addG (hL A k 0) (hL A k 1) G).length = M.length := by rw [hadd]; simp
                      simp only [st_iG, el3]
                      generalize R3 (hG (addG (hL A k 0) (hL A k 1) G)) = X2 at *
                      generalize R3 (hG M1) = X1 at *
                      simp [hbs, St.lowers, St.lower, stLe, leEnv, leObs, obLe, injB, pinC, AV.leC, AV.leCs, PV.leC, PV.Le_v, St.get, St.obj, look, rho, isNew, keptC, renH, Mode.ok, Mode.isZ, PV.isVal, PV.isNilSl, List.all_nil, List.all_cons, List.any_nil, List.any_cons, List.map_nil, List.map_cons, PV.Le_self, ek]
                      exact fun i hi => hs2 i
          · -- the last group
            have h4' : (G.getD (G.length - 1) g0).a = hL A k 0 := by
              have : (hG G (G.length - 1) 0 != hL A k 0) = false := h4
              simpa [hG, Gr.col] using this
            obtain ⟨hat, hmid⟩ := at_last hasc hN1 h4'
            rw [hat] at hadd0 hml
            rw [hmid] at hadd0 hml okM
            have e9 : (G.length : Int) - 1 = ((G.length - 1 : Nat) : Int) := by omega
            rw [e9]
            refine Go.Gw.M.by [] [] [] ?_ (evr_iC2 s1 m A k G.length (hG G) ((G.length - 1 : Nat) : Int) _ _) ?_
            · simp only [st_iC]
              generalize R3 (hG G) = XG at *
              simp [hbs, St.lowers, St.lower, stLe, leEnv, leObs, obLe, injB, pinC, AV.leC, AV.leCs, PV.leC, PV.Le_v, St.get, St.obj, look, rho, isNew, keptC, renH, Mode.ok, Mode.isZ, PV.isVal, PV.isNilSl, List.all_nil, List.all_cons, List.any_nil, List.any_cons, List.map_nil, List.map_cons, PV.Le_self]
              exact fun i hi => hsame i
            · clear hC1 stepC1 hsame
              clear ei e9 h3 eN eN2 h4' hat hmid h4 hN1
              generalize hldef : G.length - 1 = l at *
              have hMeq : ∃ M, M = G := ⟨G, rfl⟩
              obtain ⟨M, hMG⟩ := hMeq
              rw [← hMG] at hadd0 hml okM hlen ⊢
              have hl : l < M.length := hml.2.2
              have hadd : addG (hL A k 0) (hL A k 1) G = M.set l ⟨(M.getD l g0).a, (M.getD l g0).c + 1, (M.getD l g0).t + hL A k 1⟩ := by rw [← hMG]; exact hadd0
              have hMle : M.length ≤ 17 := by omega
              simp only [Int.toNat_natCast]
              · -- the count
                have e1 : IntKind.i64.wrap (hG M l 1 + 1) = (M.getD l g0).c + 1 := by
                  have := okM.get hl
                  show IntKind.i64.wrap ((M.getD l g0).c + 1) = _
                  exact wrap_in (by omega) (by omega)
                simp only [VC.holds_split, VC.holds_need, VC.holds_doneP, VC.holds_done, VC.holds_either, VC.holds_call, VC.holds_callE, VC.holds_lend, VC.holds_stop, VC.holds_fail, decide_eq_true_eq, decide_eq_false_iff_not, Int.toNat_natCast, e1]
                refine ⟨⟨by omega, by omega⟩, by omega, ⟨by decide, by decide⟩, by decide, ⟨by decide, by decide⟩, by decide, ?_⟩
                have hl2 : l < (M.set l ⟨(M.getD l g0).a, (M.getD l g0).c + 1, (M.getD l g0).t⟩).length := by simpa using hl
                have hs1 : ∀ i, PV.Le (cellSet (R3 (hG M)) l 0 (.sl false 1 3 (setG [(1, 0, .v (.int .i64 ((M.getD l g0).c + 1)))] fun j _ => PI (hG M l j))) i 0) (R3 (hG (M.set l ⟨(M.getD l g0).a, (M.getD l g0).c + 1, (M.getD l g0).t⟩)) i 0) := R3_set (by rw [hG_set hl, if_pos rfl]; rfl) fun i j hj hij => by
                  rw [hG_set hl]
                  by_cases hi : i = l
                  · subst hi
                    rw [if_pos rfl]
                    match j, hj with
                    | 0, _ => rfl
                    | 1, _ => simp at hij
                    | 2, _ => rfl
                  · rw [if_neg hi]
                have el2 : (M.set l ⟨(M.getD l g0).a, (M.getD l g0).c + 1, (M.getD l g0).t⟩).length = M.length := by simp
                have eS : (M.set l ⟨(M.getD l g0).a, (M.getD l g0).c + 1, (M.getD l g0).t⟩).getD l g0 = ⟨(M.getD l g0).a, (M.getD l g0).c + 1, (M.getD l g0).t⟩ := by
                  rw [List.getD_eq_getElem?_getD, List.getElem?_set_self hl]; rfl
                have hN2 : (M.set l ⟨(M.getD l g0).a, (M.getD l g0).c + 1, (M.getD l g0).t⟩).set l ⟨(M.getD l g0).a, (M.getD l g0).c + 1, (M.getD l g0).t + hL A k 1⟩ = M.set l ⟨(M.getD l g0).a, (M.getD l g0).c + 1, (M.getD l g0).t + hL A k 1⟩ := List.set_set ..
                generalize hMdef : M.set l ⟨(M.getD l g0).a, (M.getD l g0).c + 1, (M.getD l g0).t⟩ = M1 at *
                refine Go.Gw.M.by [] [] [] ?_ (evr_iC3 s1 m A k M.length (hG M1) l _ _) ?_
                · simp only [st_iC]
                  generalize R3 (hG M1) = X1 at *
                  simp [hbs, St.lowers, St.lower, stLe, leEnv, leObs, obLe, injB, pinC, AV.leC, AV.leCs, PV.leC, PV.Le_v, St.get, St.obj, look, rho, isNew, keptC, renH, Mode.ok, Mode.isZ, PV.isVal, PV.isNilSl, List.all_nil, List.all_cons, List.any_nil, List.any_cons, List.map_nil, List.map_cons, PV.Le_self]
                  exact fun i hi => hs1 i
                · have e2 : IntKind.i64.wrap (hG M1 l 2 + hL A k (Int.toNat 1)) = (M.getD l g0).t + hL A k 1 := by
                    have := okM.get hl
                    show IntKind.i64.wrap ((M1.getD l g0).t + hL A k 1) = _
                    rw [eS]
                    exact wrap_in (by simp only []; omega) (by simp only []; omega)
                  simp only [VC.holds_split, VC.holds_need, VC.holds_doneP, VC.holds_done, VC.holds_either, VC.holds_call, VC.holds_callE, VC.holds_lend, VC.holds_stop, VC.holds_fail, decide_eq_true_eq, decide_eq_false_iff_not, Int.toNat_natCast, e2]
                  refine ⟨⟨by omega, by omega⟩, by omega, ⟨by decide, by decide⟩, by decide, ⟨by decide, by rw [(hrow k (by omega)).1]; decide⟩, ⟨by decide, by decide⟩, by decide, Again.mk (k + 1, addG (hL A k 0) (hL A k 1) G) [] [] [] ⟨by simp only []; omega, hnext⟩ (by simp only []; omega) ?_⟩
                  have hs2 : ∀ i, PV.Le (cellSet (R3 (hG M1)) l 0 (.sl false 1 3 (setG [(2, 0, .v (.int .i64 ((M.getD l g0).t + hL A k 1)))] fun j _ => PI (hG M1 l j))) i 0) (R3 (hG (addG (hL A k 0) (hL A k 1) G)) i 0) := R3_set (by rw [hadd, ← hN2, hG_set hl2, if_pos rfl]; rfl) fun i j hj hij => by
                    rw [hadd, ← hN2, hG_set hl2]
                    by_cases hi : i = l
                    · subst hi
                      rw [if_pos rfl]
                      show _ = (M1.getD i g0).col j
                      rw [eS]
                      match j, hj with
                      | 0, _ => rfl
                      | 1, _ => rfl
                      | 2, _ => simp at hij
                    · rw [if_neg hi]
                  have el3 : (addG (hL A k 0) (hL A k 1) G).length = M.length := by rw [hadd]; simp
                  simp only [st_iG, el3]
                  generalize R3 (hG (addG (hL A k 0) (hL A k 1) G)) = X2 at *
                  generalize R3 (hG M1) = X1 at *
                  simp [hbs, St.lowers, St.lower, stLe, leEnv, leObs, obLe, injB, pinC, AV.leC, AV.leCs, PV.leC, PV.Le_v, St.get, St.obj, look, rho, isNew, keptC, renH, Mode.ok, Mode.isZ, PV.isVal, PV.isNilSl, List.all_nil, List.all_cons, List.any_nil, List.any_cons, List.map_nil, List.map_cons, PV.Le_self, ek]
                  exact fun i hi => hs2 i
      · have hkm : k = m := by omega
        have hfin : G = gpA n f m h s1 s2 := by rw [hGk, hkm]; exact hGp
        subst hfin
        refine ⟨c_imTV _ _ _ _ _ _ _ (by decide) (gNm_size hs) (by omega) (fun _ _ => by decide), fun h3 => ?_, fun h3 => ?_⟩
        · have e : gpB n f m w h s1 s2 = false := by simp only [gpB, (by simpa using h3 : tableB 3 (gNm s1) (gpA n f m h s1 s2).length (fun _ => 3) (hG (gpA n f m h s1 s2)) = false), Bool.and_false]
          obtain ⟨e1, e2⟩ := gp_no e
          simp only [gpR, gpH, e, e1, e2]
          refine ResOk.mk [] [] [0, 1] _ _ ?_ ⟨rfl, rfl⟩
          simp [doneC, resOf, resAV, tup, pinR, PV.Le_self, hbs, St.lowers, St.lower, stLe, leEnv, leObs, obLe, injB, pinC, AV.leC, AV.leCs, PV.leC, PV.Le_v, St.get, St.obj, look, rho, isNew, keptC, renH, Mode.ok, Mode.isZ, PV.isVal, PV.isNilSl, List.all_nil, List.all_cons, List.any_nil, List.any_cons, List.map_nil, List.map_cons, res41]
        · have e : gpB n f m w h s1 s2 = true := by simp only [gpB, ht, hg, (by simpa using h3 : tableB 3 (gNm s1) (gpA n f m h s1 s2).length (fun _ => 3) (hG (gpA n f m h s1 s2)) = true), Bool.and_self]
          obtain ⟨e1, e2⟩ := gp_yes e
          simp only [gpR, gpH, taH, R3, e, e1, e2]
          generalize RR (fun _ => 3) (hG (gpA n f m h s1 s2)) = X at *
          refine ResOk.mk [] [(0, 1020), (1, 12)] [] _ _ ?_ ⟨rfl, rfl⟩
          simp [doneC, resOf, resAV, tup, pinR, PV.Le_self, hbs, St.lowers, St.lower, stLe, leEnv, leObs, obLe, injB, pinC, AV.leC, AV.leCs, PV.leC, PV.Le_v, St.get, St.obj, look, rho, isNew, keptC, renH, Mode.ok, Mode.isZ, PV.isVal, PV.isNilSl, List.all_nil, List.all_cons, List.any_nil, List.any_cons, List.map_nil, List.map_cons, res41]
end Go.Gw
