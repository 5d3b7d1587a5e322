/- Bags are the same in both directions, orders do not change bags: the laws FnSameBag and FnBagOrder; with no condition. -/
import Derived.Test.YtopnhnnfobbocaaDoorLawSort
import Derived.KernelRfl
namespace Go.Gw
open Go Go.Proofs
set_option linter.unusedSimpArgs false
set_option linter.unusedVariables false
set_option maxRecDepth 100000
def ir35_L1 : Ir :=
  (.seq
  (.seq
  (.reg [51, 52, 53, 54, 55] [o 51 (.mov (tt 7)),
    o 52 (.fadr 1 (tt 6)),
    o 53 (.load false 1 (tt 52)),
    o 54 (.len (tt 53)),
    o 55 (.bin .quo (tt 54) (ci 2)),
    o 56 (.bin .lss (tt 51) (tt 55))])
  (.cond (tt 56)
   .skip
   (.exit 1)))
  (.seq
  (.block 2
   (.seq
   (.reg [59, 60, 61, 62, 63] [o 59 (.fadr 1 (tt 6)),
     o 60 (.load false 1 (tt 59)),
     o 61 (.mov (tt 7)),
     o 62 (.idx 1 (tt 60) (tt 61)),
     o 63 (.load false 1 (tt 62)),
     o 8 (.mov (tt 63))])
   (.seq
   (.dreg [64, 65, 66, 67, 68, 69, 70, 71, 72, 73, 74, 75, 76, 77] [0, 1, 0, 0, 8, 0, 32, 96, 224, 0, 992, 2040, 4088, 8191, 16383] [(1, 1065), (4, 1068), (6, 1070), (12, 1076)] [o 64 (.fadr 1 (tt 6)),
     o 65 (.load false 1 (tt 64)),
     o 66 (.mov (tt 7)),
     o 67 (.fadr 1 (tt 6)),
     o 68 (.load false 1 (tt 67)),
     o 69 (.fadr 1 (tt 6)),
     o 70 (.load false 1 (tt 69)),
     o 71 (.len (tt 70)),
     o 72 (.bin .sub (tt 71) (ci 1)),
     o 73 (.mov (tt 7)),
     o 74 (.bin .sub (tt 72) (tt 73)),
     o 75 (.idx 1 (tt 68) (tt 74)),
     o 76 (.load false 1 (tt 75)),
     o 77 (.idx 1 (tt 65) (tt 66)),
     on (.store 1 (tt 77) (tt 76))])
   (.reg [78, 79, 80, 81, 82, 83, 84, 85, 86, 87] [o 78 (.fadr 1 (tt 6)),
     o 79 (.load false 1 (tt 78)),
     o 80 (.fadr 1 (tt 6)),
     o 81 (.load false 1 (tt 80)),
     o 82 (.len (tt 81)),
     o 83 (.bin .sub (tt 82) (ci 1)),
     o 84 (.mov (tt 7)),
     o 85 (.bin .sub (tt 83) (tt 84)),
     o 86 (.mov (tt 8)),
     o 87 (.idx 1 (tt 79) (tt 85)),
     on (.store 1 (tt 87) (tt 86))]))))
  (.reg [57, 58] [o 57 (.mov (tt 7)),
    o 58 (.bin .add (tt 57) (ci 1)),
    o 7 (.mov (tt 58))])))
def ir35_T2 : Ir :=
  (.seq
  (.dreg [92, 93] [0, 0, 1, 7] [(0, 1092), (0, 2092), (1, 1093), (1, 2093)] [o 92 (.load true 2 (tt 5)),
    o 93 (.load true 2 (tt 6)),
    on (.store 2 (tt 2) (tt 92)),
    on (.store 2 (tt 3) (tt 93))])
  .ret)
def ir35_C1 : Ir :=
  (.dreg [31, 32, 33, 34, 35, 36, 37, 38, 39, 40, 41, 42, 43, 44] [0, 1, 3, 7, 0, 16, 48, 112, 240, 496, 0, 1024, 4080, 8191, 16383] [(1, 1032), (3, 1034), (5, 1036), (7, 1038), (9, 1040), (11, 1042), (11, 2042), (11, 3042), (11, 4042), (11, 5042), (11, 6042), (11, 7042), (11, 8042)] [o 31 (.fadr 1 (tt 6)),
         o 32 (.load false 1 (tt 31)),
         o 33 (.idx 1 (tt 32) (ci 0)),
         o 34 (.load false 1 (tt 33)),
         o 35 (.fadr 1 (tt 6)),
         o 36 (.load false 1 (tt 35)),
         o 37 (.idx 1 (tt 36) (ci 0)),
         o 38 (.load false 1 (tt 37)),
         o 39 (.idx 1 (tt 38) (ci 0)),
         o 40 (.load false 1 (tt 39)),
         o 41 (.mov (tt 4)),
         o 42 (.call 87 [(tt 41), (ci 2)]),
         o 43 (.bin .add (tt 40) (tt 42)),
         o 44 (.idx 1 (tt 34) (ci 0)),
         on (.store 1 (tt 44) (tt 43))])
def ir35 : Ir :=
  (.seq
  (.reg [] [o 2 (.alloc [(.slice none 0 0), (.slice none 0 0)]),
    o 3 (.alloc [(.slice none 0 0), (.slice none 0 0)])])
  (.seq
  (.reg [9, 10] [o 9 (.mov (tt 0)),
    o 10 (.call 85 [(tt 9)]),
    o 4 (.mov (tt 10))])
  (.seq
  (.reg [11, 12, 13, 14] [o 11 (.mov (tt 4)),
    o 12 (.mov (tt 4)),
    o 13 (.call 87 [(tt 12), (ci 3)]),
    o 14 (.call 86 [(tt 11), (tt 13), (ci 9)]),
    o 5 (.alloc [(.slice none 0 0), (.slice none 0 0)]),
    on (.store 2 (tt 5) (tt 14))])
  (.seq
  (.reg [15, 16] [o 15 (.load true 2 (tt 5)),
    o 16 (.call 72 [(tt 15)]),
    o 6 (.alloc [(.slice none 0 0), (.slice none 0 0)]),
    on (.store 2 (tt 6) (tt 16))])
  (.seq
  (.seq
  (.reg [17] [o 17 (.mov (tt 4)),
    o 18 (.call 87 [(tt 17), (ci 4)])])
  (.block 0
   (.seq
   (.reg [46] [o 46 (.bin .eql (tt 18) (ci 0)),
     o 45 (.mov (tt 46))])
   (.cond (tt 45)
    (.reg [47, 48] [o 47 (.load true 2 (tt 5)),
      o 48 (.call 32 [(tt 47)]),
      on (.store 2 (tt 6) (tt 48))])
    (.seq
    (.reg [50] [o 50 (.bin .eql (tt 18) (ci 1)),
      o 49 (.mov (tt 50))])
    (.cond (tt 49)
     (.seq
     (.reg [] [o 7 (.mov (ci 0))])
     (.block 1
      (.loop ir35_L1)))
     (.seq
     (.reg [89] [o 89 (.bin .eql (tt 18) (ci 2)),
       o 88 (.mov (tt 89))])
     (.cond (tt 88)
      (.reg [90, 91] [o 90 (.mov (tt 4)),
        o 91 (.call 86 [(tt 90), (ci 0), (ci 0)]),
        on (.store 2 (tt 6) (tt 91))])
      (.seq
      (.reg [19, 20, 21, 22, 23, 24, 25, 26, 27, 28, 29] [o 19 (.fadr 1 (tt 6)),
        o 20 (.load false 1 (tt 19)),
        o 21 (.len (tt 20)),
        o 22 (.bin .gtr (tt 21) (ci 0)),
        o 23 (.mov (tt 22)),
        og 24 23 true (.fadr 1 (tt 6)),
        og 25 23 true (.load false 1 (tt 24)),
        og 26 23 true (.idx 1 (tt 25) (ci 0)),
        og 27 23 true (.load false 1 (tt 26)),
        og 28 23 true (.len (tt 27)),
        og 29 23 true (.bin .gtr (tt 28) (ci 0)),
        o 30 (.pick (tt 23) (tt 29) (cb false))])
      (.cond (tt 30)
       ir35_C1
       .skip))))))))))
  ir35_T2)))))
def keep35 : List Nat := [0, 2, 3, 4, 5, 6, 7, 8, 18, 30, 45, 49, 56, 88]
def res35 : List RI := [.cell true 2 2, .cell true 2 3]
theorem chk35 : chk Tryd.prog 35 1 keep35 = some (ir35, res35) := by kernel_rfl
def ir6_C1 : Ir :=
  (.dreg [30, 31, 32, 33, 34, 35, 36, 37, 38, 39, 40, 41, 42] [0, 1, 0, 0, 8, 28, 0, 64, 192, 448, 960, 2044, 4095, 0, 16383] [(1, 1031), (2, 32), (4, 1034), (5, 35), (7, 1037), (9, 39), (10, 40), (11, 41), (13, 6)] [o 30 (.fadr 0 (tt 3)),
    o 31 (.load false 1 (tt 30)),
    o 32 (.mkSl 1 0 [(.slice none 0 0)] []),
    o 33 (.fadr 1 (tt 3)),
    o 34 (.load false 1 (tt 33)),
    o 35 (.app 1 24 false (tt 32) (tt 34)),
    o 36 (.fadr 0 (tt 3)),
    o 37 (.load false 1 (tt 36)),
    o 38 (.len (tt 37)),
    o 39 (.mkSlc 1 8 [(.int .i64 0)] (tt 38) (tt 38)),
    o 40 (.mkSl 1 1 [(.slice none 0 0)] [(0, (tt 39))]),
    o 41 (.app 1 24 false (tt 35) (tt 40)),
    o 42 (.build [(.slice none 0 0), (.slice none 0 0)] [(0, 1, (tt 31)), (1, 1, (tt 41))]),
    o 6 (.alloc [(.slice none 0 0), (.slice none 0 0)]),
    on (.store 2 (tt 6) (tt 42))])
def ir6_D1 : Ir :=
  (.seq
  (.dreg [43, 44, 45, 46, 47, 48, 49, 50, 51, 52, 53, 54, 55, 56, 57] [0, 0, 3, 0, 15, 31, 63, 127, 127, 511, 1023, 2047, 4095, 8191, 16383, 32767] [(0, 1043), (0, 2043), (1, 1044), (1, 2044), (2, 1045), (2, 2045), (2, 3045), (2, 4045), (2, 5045), (2, 6045), (2, 7045), (2, 8045), (3, 1046), (3, 2046), (4, 1047), (4, 2047), (4, 3047), (4, 4047), (4, 5047), (4, 6047), (4, 7047), (4, 8047), (7, 1050), (7, 2050), (8, 1051), (8, 2051), (9, 1052), (9, 2052), (9, 3052), (9, 4052), (9, 5052), (9, 6052), (9, 7052), (9, 8052), (13, 1056), (13, 2056), (13, 3056), (13, 4056), (13, 5056), (13, 6056), (13, 7056), (13, 8056)] [o 43 (.load true 2 (tt 3)),
    o 44 (.load true 2 (tt 3)),
    o 45 (.call 34 [(tt 43), (tt 44)]),
    o 46 (.load true 2 (tt 3)),
    o 47 (.call 37 [(tt 46)]),
    o 48 (.binB .eql (tt 45) (tt 47)),
    o 49 (.mov (tt 48)),
    og 50 49 true (.load true 2 (tt 3)),
    og 51 49 true (.load true 2 (tt 6)),
    og 52 49 true (.call 34 [(tt 50), (tt 51)]),
    og 53 49 true (.un .not (tt 52)),
    o 54 (.pick (tt 49) (tt 53) (cb false)),
    o 55 (.mov (tt 54)),
    og 56 55 true (.call 19 []),
    o 57 (.pick (tt 55) (tt 56) (cb false)),
    o 2 (.mov (tt 57))])
  .ret)
def ir6 : Ir :=
  (.seq
  (.reg [] [o 2 (.mov (cb false))])
  (.seq
  (.seq
  (.reg [7, 8] [o 7 (.mov (tt 0)),
    o 8 (.len (tt 7)),
    o 9 (.bin .gtr (tt 8) (ci 1048576))])
  (.cond (tt 9)
   (.seq
   (.reg [] [o 2 (.mov (cb true))])
   .ret)
   .skip))
  (.seq
  (.reg [11, 12, 10, 13, 14] [o 11 (.mov (tt 0)),
    o 12 (.call 35 [(tt 11)]),
    o 10 (.mov (tt 12)),
    o 13 (.ext (tt 10) 0),
    o 14 (.ext (tt 10) 1),
    o 3 (.alloc [(.slice none 0 0), (.slice none 0 0)]),
    o 4 (.alloc [(.slice none 0 0), (.slice none 0 0)]),
    on (.store 2 (tt 3) (tt 13)),
    on (.store 2 (tt 4) (tt 14))])
  (.seq
  (.reg [15, 16, 17] [o 15 (.load true 2 (tt 3)),
    o 16 (.load true 2 (tt 4)),
    o 17 (.call 34 [(tt 15), (tt 16)]),
    o 5 (.mov (tt 17))])
  (.seq
  (.seq
  (.reg [18, 19, 20, 21, 22, 23, 24, 25, 26, 27, 28] [o 18 (.mov (tt 5)),
    o 19 (.load true 2 (tt 3)),
    o 20 (.load true 2 (tt 4)),
    o 21 (.call 36 [(tt 19), (tt 20)]),
    o 22 (.binB .neq (tt 18) (tt 21)),
    o 23 (.mov (tt 22)),
    og 24 23 false (.mov (tt 5)),
    og 25 23 false (.load true 2 (tt 4)),
    og 26 23 false (.load true 2 (tt 3)),
    og 27 23 false (.call 34 [(tt 25), (tt 26)]),
    og 28 23 false (.binB .neq (tt 24) (tt 27)),
    o 29 (.pick (tt 23) (cb true) (tt 28))])
  (.cond (tt 29)
   (.seq
   (.reg [] [o 2 (.mov (cb false))])
   .ret)
   .skip))
  (.seq
  ir6_C1
  ir6_D1))))))
def keep6 : List Nat := [0, 2, 3, 4, 5, 6, 9, 29]
def res6 : List RI := [.tmp 2]
theorem chk6 : chk Tryd.prog 6 1 keep6 = some (ir6, res6) := by kernel_rfl
def ir11 : Ir :=
  (.seq
  (.reg [] [o 2 (.mov (cb false))])
  (.seq
  (.seq
  (.reg [10, 11] [o 10 (.mov (tt 0)),
    o 11 (.len (tt 10)),
    o 12 (.bin .gtr (tt 11) (ci 1048576))])
  (.cond (tt 12)
   (.seq
   (.reg [] [o 2 (.mov (cb true))])
   .ret)
   .skip))
  (.seq
  (.reg [14, 15, 13, 16, 17] [o 14 (.mov (tt 0)),
    o 15 (.call 35 [(tt 14)]),
    o 13 (.mov (tt 15)),
    o 16 (.ext (tt 13) 0),
    o 17 (.ext (tt 13) 1),
    o 3 (.alloc [(.slice none 0 0), (.slice none 0 0)]),
    o 4 (.alloc [(.slice none 0 0), (.slice none 0 0)]),
    on (.store 2 (tt 3) (tt 16)),
    on (.store 2 (tt 4) (tt 17))])
  (.seq
  (.reg [18, 19, 20] [o 18 (.load true 2 (tt 3)),
    o 19 (.load true 2 (tt 4)),
    o 20 (.call 34 [(tt 18), (tt 19)]),
    o 5 (.mov (tt 20))])
  (.seq
  (.seq
  (.reg [21, 22, 23, 24] [o 21 (.mov (tt 5)),
    o 22 (.load true 2 (tt 3)),
    o 23 (.load true 2 (tt 4)),
    o 24 (.call 36 [(tt 22), (tt 23)]),
    o 25 (.binB .neq (tt 21) (tt 24))])
  (.cond (tt 25)
   (.seq
   (.reg [] [o 2 (.mov (cb false))])
   .ret)
   .skip))
  (.seq
  (.seq
  (.reg [26, 27, 28, 29, 30, 31, 32] [o 26 (.mov (tt 5)),
    o 27 (.un .not (tt 26)),
    o 28 (.mov (tt 27)),
    og 29 28 false (.fadr 0 (tt 3)),
    og 30 28 false (.load false 1 (tt 29)),
    og 31 28 false (.len (tt 30)),
    og 32 28 false (.bin .eql (tt 31) (ci 0)),
    o 33 (.pick (tt 28) (cb true) (tt 32))])
  (.cond (tt 33)
   (.seq
   (.reg [34] [o 34 (.call 19 []),
     o 2 (.mov (tt 34))])
   .ret)
   .skip))
  (.seq
  (.dreg [36, 37, 38, 39, 40, 41, 35, 42, 43] [0, 0, 2, 6, 14, 31, 63, 127, 127, 0, 767, 2047] [(0, 1036), (0, 2036), (2, 1038), (4, 1040), (5, 1041), (5, 2041), (5, 3041), (5, 4041), (5, 5041), (5, 6041), (5, 7041), (5, 8041), (9, 6)] [o 36 (.load true 2 (tt 3)),
    o 37 (.fadr 0 (tt 3)),
    o 38 (.load false 1 (tt 37)),
    o 39 (.idx 1 (tt 38) (ci 0)),
    o 40 (.load false 1 (tt 39)),
    o 41 (.call 44 [(tt 36), (tt 40), (cb true)]),
    o 35 (.mov (tt 41)),
    o 42 (.ext (tt 35) 0),
    o 43 (.ext (tt 35) 1),
    o 6 (.alloc [(.slice none 0 0), (.slice none 0 0)]),
    on (.store 2 (tt 6) (tt 42)),
    o 7 (.mov (tt 43))])
  (.seq
  (.dreg [45, 46, 47, 48, 49, 50, 44, 51, 52] [0, 0, 2, 6, 14, 31, 63, 127, 127, 0, 767, 2047] [(0, 1045), (0, 2045), (2, 1047), (4, 1049), (5, 1050), (5, 2050), (5, 3050), (5, 4050), (5, 5050), (5, 6050), (5, 7050), (5, 8050), (9, 8)] [o 45 (.load true 2 (tt 4)),
    o 46 (.fadr 0 (tt 3)),
    o 47 (.load false 1 (tt 46)),
    o 48 (.idx 1 (tt 47) (ci 0)),
    o 49 (.load false 1 (tt 48)),
    o 50 (.call 44 [(tt 45), (tt 49), (cb true)]),
    o 44 (.mov (tt 50)),
    o 51 (.ext (tt 44) 0),
    o 52 (.ext (tt 44) 1),
    o 8 (.alloc [(.slice none 0 0), (.slice none 0 0)]),
    on (.store 2 (tt 8) (tt 51)),
    o 9 (.mov (tt 52))])
  (.seq
  (.reg [53, 54, 55, 56, 57, 58, 59, 60, 61] [o 53 (.mov (tt 7)),
    o 54 (.mov (tt 53)),
    og 55 54 true (.mov (tt 9)),
    o 56 (.pick (tt 54) (tt 55) (cb false)),
    o 57 (.mov (tt 56)),
    og 58 57 true (.load true 2 (tt 6)),
    og 59 57 true (.load true 2 (tt 8)),
    og 60 57 true (.call 31 [(tt 58), (tt 59)]),
    o 61 (.pick (tt 57) (tt 60) (cb false)),
    o 2 (.mov (tt 61))])
  .ret)))))))))
def keep11 : List Nat := [0, 2, 3, 4, 5, 6, 7, 8, 9, 12, 25, 33]
def res11 : List RI := [.tmp 2]
theorem chk11 : chk Tryd.prog 11 1 keep11 = some (ir11, res11) := by kernel_rfl

def in_dSB (nn : Bool) (n : Nat) (f : Nat → Int) := (G0, res35, ([] : List (Nat × Ob)), [Item.ir ir35], start [.p false (.sl nn 1 n (PB f))] [])
theorem ev_dSB : ∀ (nn : Bool) (n : Nat) (f : Nat → Int), ev G0 res35 [] (3000 : Nat) (Or.call [] (AV.adr (0 : Nat) (0 : Nat)) [((0 : Nat), RD nn (openN n) f (0 : Nat))] (Or.call [(1010 : Nat)] (AI (pickV (openN n) f (0 : Nat) (3 : Int))) [((0 : Nat), RD nn (openN n) f ((0 : Nat) + (1 : Nat)))] (Or.callE [(1010 : Nat)] DT (DtOk ((0 : Nat) + (1 : Nat))) dtR (dtH nn (openN n) f) fun (x : DT) => Or.call [] taR (taH x.n x.f x.m x.w x.h) (Or.call [(1010 : Nat)] (AI (pickV (openN n) f x.p (4 : Int))) [((0 : Nat), RD nn (openN n) f (x.p + (1 : Nat)))] ((Or.call [] taR (srF x.n x.f x.m x.w x.h) Or.nil).split (Or.nil.split ((Or.callE [(1010 : Nat)] DT (DtOk (x.p + (1 : Nat))) dtR (dtH nn (openN n) f) fun (x_1 : DT) => Or.nil).split (((Or.stop (0 : Nat)).split Or.nil).lit.lit.lit.lit.lit.lit.split Or.nil.lit.lit.lit.lit.lit.lit.lit)))))))) [Item.ir ir35] (start [AV.p false (PV.sl nn (1 : Nat) n (PB f))] []) = VC.call (85 : Nat) [AV.p false (PV.sl nn (1 : Nat) n (PB f))] [] (AV.adr (0 : Nat) (0 : Nat)) [((0 : Nat), RD nn (openN n) f (0 : Nat))] (VC.call (87 : Nat) [AV.adr (0 : Nat) (0 : Nat), AV.p true (PV.v (Value.int IntKind.i64 (3 : Int)))] [((0 : Nat), Ob.box [AV.p false (PV.sl nn (1 : Nat) (openN n) (PB f)), AV.p true (PV.v (Value.int IntKind.i64 (↑(0 : Nat) : Int)))])] (AI (pickV (openN n) f (0 : Nat) (3 : Int))) [((0 : Nat), RD nn (openN n) f ((0 : Nat) + (1 : Nat)))] (VC.callE DT (86 : Nat) [AV.adr (0 : Nat) (0 : Nat), AV.p true (PV.v (Value.int IntKind.i64 (pickV (openN n) f (0 : Nat) (3 : Int)))), AV.p true (PV.v (Value.int IntKind.i64 (9 : Int)))] [((0 : Nat), Ob.box [AV.p false (PV.sl nn (1 : Nat) (openN n) (PB f)), AV.p true (PV.v (Value.int IntKind.i64 (↑((0 : Nat) + (1 : Nat)) : Int)))])] (DtOk ((0 : Nat) + (1 : Nat))) dtR (dtH nn (openN n) f) fun (x : DT) => VC.call (72 : Nat) [AV.ag [AV.p false (PV.sl false (1 : Nat) x.n (TR x.f)), AV.p false (PV.sl false (1 : Nat) x.m (RR x.w x.h))]] [] taR (taH x.n x.f x.m x.w x.h) (VC.call (87 : Nat) [AV.adr (0 : Nat) (0 : Nat), AV.p true (PV.v (Value.int IntKind.i64 (4 : Int)))] [((0 : Nat), Ob.box [AV.p false (PV.sl nn (1 : Nat) (openN n) (PB f)), AV.p true (PV.v (Value.int IntKind.i64 (↑x.p : Int)))])] (AI (pickV (openN n) f x.p (4 : Int))) [((0 : Nat), RD nn (openN n) f (x.p + (1 : Nat)))] (VC.split (pickV (openN n) f x.p (4 : Int) == (0 : Int)) (VC.call (32 : Nat) [AV.ag [AV.p false (PV.sl false (1 : Nat) x.n (TR x.f)), AV.p false (PV.sl false (1 : Nat) x.m (RR x.w x.h))]] [] taR (srF x.n x.f x.m x.w x.h) (VC.done (St.mk [((0 : Nat), AV.p false (PV.sl nn (1 : Nat) n (PB f))), ((2 : Nat), AV.adr (2 : Nat) (0 : Nat)), ((3 : Nat), AV.adr (3 : Nat) (0 : Nat)), ((4 : Nat), AV.adr (1010 : Nat) (0 : Nat)), ((5 : Nat), AV.adr (5 : Nat) (0 : Nat)), ((6 : Nat), AV.adr (6 : Nat) (0 : Nat)), ((18 : Nat), AV.p true (PV.v (Value.int IntKind.i64 (pickV (openN n) f x.p (4 : Int))))), ((45 : Nat), AV.p true (PV.v (Value.bool (pickV (openN n) f x.p (4 : Int) == (0 : Int)))))] [((2 : Nat), Ob.box [AV.own (1014 : Nat), AV.own (2014 : Nat)]), ((3 : Nat), Ob.box [AV.own (1048 : Nat), AV.own (2048 : Nat)]), ((1010 : Nat), Ob.box [AV.p false (PV.sl nn (1 : Nat) (openN n) (PB f)), AV.p true (PV.v (Value.int IntKind.i64 (↑(x.p + (1 : Nat)) : Int)))]), ((1014 : Nat), Ob.row Mode.u false (1 : Nat) x.n (TR x.f) []), ((2014 : Nat), Ob.row Mode.u false (1 : Nat) x.m (RR x.w x.h) []), ((5 : Nat), Ob.box [AV.own (1014 : Nat), AV.own (2014 : Nat)]), ((6 : Nat), Ob.box [AV.own (1048 : Nat), AV.own (2048 : Nat)]), ((1048 : Nat), Ob.row Mode.u false (1 : Nat) (srN x.n x.f x.m x.w x.h) (TR x.f) []), ((2048 : Nat), Ob.row Mode.f false (1 : Nat) (srM x.n x.f x.m x.w x.h) (RR (wL (srtA x.m x.w x.h)) (hL (srtA x.m x.w x.h))) [])]))) (VC.split (pickV (openN n) f x.p (4 : Int) == (1 : Int)) (VC.loop ir35_L1 [Item.bend (1 : Nat), Item.bend (0 : Nat), Item.ir ir35_T2] (St.mk [((0 : Nat), AV.p false (PV.sl nn (1 : Nat) n (PB f))), ((2 : Nat), AV.adr (2 : Nat) (0 : Nat)), ((3 : Nat), AV.adr (3 : Nat) (0 : Nat)), ((4 : Nat), AV.adr (1010 : Nat) (0 : Nat)), ((5 : Nat), AV.adr (5 : Nat) (0 : Nat)), ((6 : Nat), AV.adr (6 : Nat) (0 : Nat)), ((18 : Nat), AV.p true (PV.v (Value.int IntKind.i64 (pickV (openN n) f x.p (4 : Int))))), ((45 : Nat), AV.p true (PV.v (Value.bool (pickV (openN n) f x.p (4 : Int) == (0 : Int))))), ((49 : Nat), AV.p true (PV.v (Value.bool (pickV (openN n) f x.p (4 : Int) == (1 : Int))))), ((7 : Nat), AV.p true (PV.v (Value.int IntKind.i64 (0 : Int))))] [((2 : Nat), Ob.box [AV.p true (PV.v (Value.slice none (0 : Nat) (0 : Nat))), AV.p true (PV.v (Value.slice none (0 : Nat) (0 : Nat)))]), ((3 : Nat), Ob.box [AV.p true (PV.v (Value.slice none (0 : Nat) (0 : Nat))), AV.p true (PV.v (Value.slice none (0 : Nat) (0 : Nat)))]), ((1010 : Nat), Ob.box [AV.p false (PV.sl nn (1 : Nat) (openN n) (PB f)), AV.p true (PV.v (Value.int IntKind.i64 (↑(x.p + (1 : Nat)) : Int)))]), ((1014 : Nat), Ob.row Mode.u false (1 : Nat) x.n (TR x.f) []), ((2014 : Nat), Ob.row Mode.u false (1 : Nat) x.m (RR x.w x.h) []), ((5 : Nat), Ob.box [AV.own (1014 : Nat), AV.own (2014 : Nat)]), ((1016 : Nat), Ob.row Mode.u false (1 : Nat) x.n (TR x.f) []), ((2016 : Nat), Ob.row Mode.u false (1 : Nat) x.m (RR x.w x.h) []), ((6 : Nat), Ob.box [AV.own (1016 : Nat), AV.own (2016 : Nat)])])) (VC.split (pickV (openN n) f x.p (4 : Int) == (2 : Int)) (VC.callE DT (86 : Nat) [AV.adr (0 : Nat) (0 : Nat), AV.p true (PV.v (Value.int IntKind.i64 (0 : Int))), AV.p true (PV.v (Value.int IntKind.i64 (0 : Int)))] [((0 : Nat), Ob.box [AV.p false (PV.sl nn (1 : Nat) (openN n) (PB f)), AV.p true (PV.v (Value.int IntKind.i64 (↑(x.p + (1 : Nat)) : Int)))])] (DtOk (x.p + (1 : Nat))) dtR (dtH nn (openN n) f) fun (x_1 : DT) => VC.done (St.mk [((0 : Nat), AV.p false (PV.sl nn (1 : Nat) n (PB f))), ((2 : Nat), AV.adr (2 : Nat) (0 : Nat)), ((3 : Nat), AV.adr (3 : Nat) (0 : Nat)), ((4 : Nat), AV.adr (1010 : Nat) (0 : Nat)), ((5 : Nat), AV.adr (5 : Nat) (0 : Nat)), ((6 : Nat), AV.adr (6 : Nat) (0 : Nat)), ((18 : Nat), AV.p true (PV.v (Value.int IntKind.i64 (pickV (openN n) f x.p (4 : Int))))), ((45 : Nat), AV.p true (PV.v (Value.bool (pickV (openN n) f x.p (4 : Int) == (0 : Int))))), ((49 : Nat), AV.p true (PV.v (Value.bool (pickV (openN n) f x.p (4 : Int) == (1 : Int))))), ((88 : Nat), AV.p true (PV.v (Value.bool (pickV (openN n) f x.p (4 : Int) == (2 : Int)))))] [((2 : Nat), Ob.box [AV.own (1014 : Nat), AV.own (2014 : Nat)]), ((3 : Nat), Ob.box [AV.own (1091 : Nat), AV.own (2091 : Nat)]), ((1010 : Nat), Ob.box [AV.p false (PV.sl nn (1 : Nat) (openN n) (PB f)), AV.p true (PV.v (Value.int IntKind.i64 (↑x_1.p : Int)))]), ((1014 : Nat), Ob.row Mode.u false (1 : Nat) x.n (TR x.f) []), ((2014 : Nat), Ob.row Mode.u false (1 : Nat) x.m (RR x.w x.h) []), ((5 : Nat), Ob.box [AV.own (1014 : Nat), AV.own (2014 : Nat)]), ((6 : Nat), Ob.box [AV.own (1091 : Nat), AV.own (2091 : Nat)]), ((1091 : Nat), Ob.row Mode.u false (1 : Nat) x_1.n (TR x_1.f) []), ((2091 : Nat), Ob.row Mode.u false (1 : Nat) x_1.m (RR x_1.w x_1.h) [])])) (VC.split (decide ((0 : Int) < (↑x.m : Int))) (VC.need ((0 : Int) ≤ (0 : Int) ∧ Int.toNat (0 : Int) < x.m) (VC.need ((0 : Nat) < x.m) (VC.split (decide ((0 : Int) < (↑(x.w (0 : Nat)) : Int))) (VC.stop [Item.ir ir35_C1, Item.bend (0 : Nat), Item.ir ir35_T2] (St.mk [((0 : Nat), AV.p false (PV.sl nn (1 : Nat) n (PB f))), ((2 : Nat), AV.adr (2 : Nat) (0 : Nat)), ((3 : Nat), AV.adr (3 : Nat) (0 : Nat)), ((4 : Nat), AV.adr (1010 : Nat) (0 : Nat)), ((5 : Nat), AV.adr (5 : Nat) (0 : Nat)), ((6 : Nat), AV.adr (6 : Nat) (0 : Nat)), ((18 : Nat), AV.p true (PV.v (Value.int IntKind.i64 (pickV (openN n) f x.p (4 : Int))))), ((45 : Nat), AV.p true (PV.v (Value.bool (pickV (openN n) f x.p (4 : Int) == (0 : Int))))), ((49 : Nat), AV.p true (PV.v (Value.bool (pickV (openN n) f x.p (4 : Int) == (1 : Int))))), ((88 : Nat), AV.p true (PV.v (Value.bool (pickV (openN n) f x.p (4 : Int) == (2 : Int))))), ((30 : Nat), AV.p true (PV.v (Value.bool (decide ((0 : Int) < (↑(x.w (0 : Nat)) : Int))))))] [((2 : Nat), Ob.box [AV.p true (PV.v (Value.slice none (0 : Nat) (0 : Nat))), AV.p true (PV.v (Value.slice none (0 : Nat) (0 : Nat)))]), ((3 : Nat), Ob.box [AV.p true (PV.v (Value.slice none (0 : Nat) (0 : Nat))), AV.p true (PV.v (Value.slice none (0 : Nat) (0 : Nat)))]), ((1010 : Nat), Ob.box [AV.p false (PV.sl nn (1 : Nat) (openN n) (PB f)), AV.p true (PV.v (Value.int IntKind.i64 (↑(x.p + (1 : Nat)) : Int)))]), ((1014 : Nat), Ob.row Mode.u false (1 : Nat) x.n (TR x.f) []), ((2014 : Nat), Ob.row Mode.u false (1 : Nat) x.m (RR x.w x.h) []), ((5 : Nat), Ob.box [AV.own (1014 : Nat), AV.own (2014 : Nat)]), ((1016 : Nat), Ob.row Mode.u false (1 : Nat) x.n (TR x.f) []), ((2016 : Nat), Ob.row Mode.u false (1 : Nat) x.m (cellSet (RR x.w x.h) (0 : Nat) (nat_lit 0) (PV.sl false (1 : Nat) (x.w (0 : Nat)) fun (j x_1 : Nat) => PI (x.h (0 : Nat) j))) []), ((6 : Nat), Ob.box [AV.own (1016 : Nat), AV.own (2016 : Nat)])])) (VC.done (St.mk [((0 : Nat), AV.p false (PV.sl nn (1 : Nat) n (PB f))), ((2 : Nat), AV.adr (2 : Nat) (0 : Nat)), ((3 : Nat), AV.adr (3 : Nat) (0 : Nat)), ((4 : Nat), AV.adr (1010 : Nat) (0 : Nat)), ((5 : Nat), AV.adr (5 : Nat) (0 : Nat)), ((6 : Nat), AV.adr (6 : Nat) (0 : Nat)), ((18 : Nat), AV.p true (PV.v (Value.int IntKind.i64 (pickV (openN n) f x.p (4 : Int))))), ((45 : Nat), AV.p true (PV.v (Value.bool (pickV (openN n) f x.p (4 : Int) == (0 : Int))))), ((49 : Nat), AV.p true (PV.v (Value.bool (pickV (openN n) f x.p (4 : Int) == (1 : Int))))), ((88 : Nat), AV.p true (PV.v (Value.bool (pickV (openN n) f x.p (4 : Int) == (2 : Int))))), ((30 : Nat), AV.p true (PV.v (Value.bool (decide ((0 : Int) < (↑(x.w (0 : Nat)) : Int))))))] [((2 : Nat), Ob.box [AV.own (1014 : Nat), AV.own (2014 : Nat)]), ((3 : Nat), Ob.box [AV.own (1016 : Nat), AV.own (2016 : Nat)]), ((1010 : Nat), Ob.box [AV.p false (PV.sl nn (1 : Nat) (openN n) (PB f)), AV.p true (PV.v (Value.int IntKind.i64 (↑(x.p + (1 : Nat)) : Int)))]), ((1014 : Nat), Ob.row Mode.u false (1 : Nat) x.n (TR x.f) []), ((2014 : Nat), Ob.row Mode.u false (1 : Nat) x.m (RR x.w x.h) []), ((5 : Nat), Ob.box [AV.own (1014 : Nat), AV.own (2014 : Nat)]), ((1016 : Nat), Ob.row Mode.u false (1 : Nat) x.n (TR x.f) []), ((2016 : Nat), Ob.row Mode.u false (1 : Nat) x.m (cellSet (RR x.w x.h) (0 : Nat) (nat_lit 0) (PV.sl false (1 : Nat) (x.w (0 : Nat)) fun (j x_1 : Nat) => PI (x.h (0 : Nat) j))) []), ((6 : Nat), Ob.box [AV.own (1016 : Nat), AV.own (2016 : Nat)])]))))) (VC.done (St.mk [((0 : Nat), AV.p false (PV.sl nn (1 : Nat) n (PB f))), ((2 : Nat), AV.adr (2 : Nat) (0 : Nat)), ((3 : Nat), AV.adr (3 : Nat) (0 : Nat)), ((4 : Nat), AV.adr (1010 : Nat) (0 : Nat)), ((5 : Nat), AV.adr (5 : Nat) (0 : Nat)), ((6 : Nat), AV.adr (6 : Nat) (0 : Nat)), ((18 : Nat), AV.p true (PV.v (Value.int IntKind.i64 (pickV (openN n) f x.p (4 : Int))))), ((45 : Nat), AV.p true (PV.v (Value.bool (pickV (openN n) f x.p (4 : Int) == (0 : Int))))), ((49 : Nat), AV.p true (PV.v (Value.bool (pickV (openN n) f x.p (4 : Int) == (1 : Int))))), ((88 : Nat), AV.p true (PV.v (Value.bool (pickV (openN n) f x.p (4 : Int) == (2 : Int))))), ((30 : Nat), AV.p true (PV.v (Value.bool false)))] [((2 : Nat), Ob.box [AV.own (1014 : Nat), AV.own (2014 : Nat)]), ((3 : Nat), Ob.box [AV.own (1016 : Nat), AV.own (2016 : Nat)]), ((1010 : Nat), Ob.box [AV.p false (PV.sl nn (1 : Nat) (openN n) (PB f)), AV.p true (PV.v (Value.int IntKind.i64 (↑(x.p + (1 : Nat)) : Int)))]), ((1014 : Nat), Ob.row Mode.u false (1 : Nat) x.n (TR x.f) []), ((2014 : Nat), Ob.row Mode.u false (1 : Nat) x.m (RR x.w x.h) []), ((5 : Nat), Ob.box [AV.own (1014 : Nat), AV.own (2014 : Nat)]), ((1016 : Nat), Ob.row Mode.u false (1 : Nat) x.n (TR x.f) []), ((2016 : Nat), Ob.row Mode.u false (1 : Nat) x.m (RR x.w x.h) []), ((6 : Nat), Ob.box [AV.own (1016 : Nat), AV.own (2016 : Nat)])]))))))))) := by intros; kernel_rfl
/-- A row of a row of which nobody else speaks becomes an object of its own. -/
theorem Wk.lend {s : St} {i e k j : Nat} {nn : Bool} {esz n : Nat} {g : Nat → Nat → PV} {hl : List (Nat × Nat × Nat)} (ho : s.obj i = some (.row .u nn esz n g hl)) (hk : k < n) (hj : j < esz)
    (hh : hole hl k j = none) {nn' : Bool} {e' n' : Nat} {g' : Nat → Nat → PV} (hg : g k j = .sl nn' e' n' g') (hid : s.noidB e = true) (hne : e ≠ i) : Wk s ((s.setOb i (.row .u nn esz n g ((k, j, e) :: hl))).setOb e (.row .u nn' e' n' g' [])) := fun cx ι ow a w hm => by
  rcases hm.obs i _ ho with ⟨h, _⟩ | ⟨b', cap', c', t', q, h4, h0, h1, h2, h3, hq, h5⟩
  · omega
  · obtain ⟨ow', _, h6⟩ := hm.extract ho hk hj hh hg (St.noid_of hid) hne h4 h1
    exact ⟨_, ow', h6⟩
theorem M.via {P : Program} {G : List (Nat × PV)} {rl : List RI} {H0 : List (Nat × Ob)} {R : AV → List (Nat × Ob) → Prop} {x : Ir} {k : List Item} {s s' : St} (h : Wk s s') {n : Nat} {or : Or} {vc : VC} (he : Go.Gw.ev G rl H0 n or (.ir x :: k) s' = vc) (hv : vc.holds P G rl H0 R) :
    M P G (Post rl H0 R) (.ir x :: k) s := M.wk h (ev_ok n _ _ _ (he.symm ▸ hv))
abbrev nilB : Ob := .box [.p true (.v (.slice none 0 0)), .p true (.v (.slice none 0 0))]
def st_dSB1 (d : DT) (x : Nat × (Nat → Nat) × (Nat → Nat → Int)) : St := ⟨[(2, .adr 2 0), (3, .adr 3 0), (5, .adr 5 0), (6, .adr 6 0), (7, AI x.1)], [(2, nilB), (3, nilB), (1014, .row .u false 1 d.n (TR d.f) []), (2014, .row .u false 1 d.m (RR d.w d.h) []), (5, .box [.own 1014, .own 2014]), (1016, .row .u false 1 d.n (TR d.f) []), (2016, .row .f false 1 d.m (RR x.2.1 x.2.2) []), (6, .box [.own 1016, .own 2016])]⟩
def r_dSB1 (d : DT) (I : (Nat × (Nat → Nat) × (Nat → Nat → Int)) → St → Prop) (x : Nat × (Nat → Nat) × (Nat → Nat → Int)) := (G0, res35, ([] : List (Nat × Ob)), [Item.ir ir35_L1, .lend (I x), Item.bend 1, Item.bend 0, Item.ir ir35_T2], st_dSB1 d x)
theorem evr_dSB1 : ∀ (d : DT) (I : Nat × (Nat → Nat) × (Nat → Nat → Int) → St → Prop) (x : Nat × (Nat → Nat) × (Nat → Nat → Int)), ev G0 res35 [] (3000 : Nat) (Or.nil.split Or.nil) [Item.ir ir35_L1, Item.lend (I x), Item.bend (1 : Nat), Item.bend (0 : Nat), Item.ir ir35_T2] (st_dSB1 d x) = VC.need ((2 : Int) ≠ (0 : Int)) (VC.split (decide ((↑x.1 : Int) < IntKind.i64.wrap ((↑d.m : Int).tdiv (2 : Int)))) (VC.need ((0 : Int) ≤ (↑x.1 : Int) ∧ (↑x.1 : Int).toNat < d.m) (VC.need ((↑x.1 : Int).toNat < d.m) (VC.need ((0 : Int) ≤ IntKind.i64.wrap (IntKind.i64.wrap ((↑d.m : Int) - (1 : Int)) - (↑x.1 : Int)) ∧ (IntKind.i64.wrap (IntKind.i64.wrap ((↑d.m : Int) - (1 : Int)) - (↑x.1 : Int))).toNat < d.m) (VC.need ((IntKind.i64.wrap (IntKind.i64.wrap ((↑d.m : Int) - (1 : Int)) - (↑x.1 : Int))).toNat < d.m) (VC.need ((0 : Int) ≤ (↑x.1 : Int) ∧ (↑x.1 : Int).toNat < d.m) (VC.need ((↑x.1 : Int).toNat < d.m) (VC.need ((0 : Int) ≤ IntKind.i64.wrap (IntKind.i64.wrap ((↑d.m : Int) - (1 : Int)) - (↑x.1 : Int)) ∧ (IntKind.i64.wrap (IntKind.i64.wrap ((↑d.m : Int) - (1 : Int)) - (↑x.1 : Int))).toNat < d.m) (VC.need ((IntKind.i64.wrap (IntKind.i64.wrap ((↑d.m : Int) - (1 : Int)) - (↑x.1 : Int))).toNat < d.m) (VC.lend (I x) (St.mk [((2 : Nat), AV.adr (2 : Nat) (0 : Nat)), ((3 : Nat), AV.adr (3 : Nat) (0 : Nat)), ((5 : Nat), AV.adr (5 : Nat) (0 : Nat)), ((6 : Nat), AV.adr (6 : Nat) (0 : Nat)), ((7 : Nat), AV.p true (PV.v (Value.int IntKind.i64 (IntKind.i64.wrap ((↑x.1 : Int) + (1 : Int)))))), ((56 : Nat), AV.p true (PV.v (Value.bool (decide ((↑x.1 : Int) < IntKind.i64.wrap ((↑d.m : Int).tdiv (2 : Int))))))), ((8 : Nat), AV.p true (PV.sl false (1 : Nat) (x.2.1 (↑x.1 : Int).toNat) fun (j x_1 : Nat) => PI (x.2.2 (↑x.1 : Int).toNat j)))] [((2 : Nat), Ob.box [AV.p true (PV.v (Value.slice none (0 : Nat) (0 : Nat))), AV.p true (PV.v (Value.slice none (0 : Nat) (0 : Nat)))]), ((3 : Nat), Ob.box [AV.p true (PV.v (Value.slice none (0 : Nat) (0 : Nat))), AV.p true (PV.v (Value.slice none (0 : Nat) (0 : Nat)))]), ((1014 : Nat), Ob.row Mode.u false (1 : Nat) d.n (TR d.f) []), ((2014 : Nat), Ob.row Mode.u false (1 : Nat) d.m (RR d.w d.h) []), ((5 : Nat), Ob.box [AV.own (1014 : Nat), AV.own (2014 : Nat)]), ((1016 : Nat), Ob.row Mode.u false (1 : Nat) d.n (TR d.f) []), ((2016 : Nat), Ob.row Mode.f false (1 : Nat) d.m (setG [((IntKind.i64.wrap (IntKind.i64.wrap ((↑d.m : Int) - (1 : Int)) - (↑x.1 : Int))).toNat, (0 : Nat), PV.sl false (1 : Nat) (x.2.1 (↑x.1 : Int).toNat) fun (j x_1 : Nat) => PI (x.2.2 (↑x.1 : Int).toNat j))] (setG [((↑x.1 : Int).toNat, (0 : Nat), PV.sl false (1 : Nat) (x.2.1 (IntKind.i64.wrap (IntKind.i64.wrap ((↑d.m : Int) - (1 : Int)) - (↑x.1 : Int))).toNat) fun (j x_1 : Nat) => PI (x.2.2 (IntKind.i64.wrap (IntKind.i64.wrap ((↑d.m : Int) - (1 : Int)) - (↑x.1 : Int))).toNat j))] (RR x.2.1 x.2.2))) []), ((6 : Nat), Ob.box [AV.own (1016 : Nat), AV.own (2016 : Nat)])])))))))))) (VC.done (St.mk [((2 : Nat), AV.adr (2 : Nat) (0 : Nat)), ((3 : Nat), AV.adr (3 : Nat) (0 : Nat)), ((5 : Nat), AV.adr (5 : Nat) (0 : Nat)), ((6 : Nat), AV.adr (6 : Nat) (0 : Nat)), ((7 : Nat), AV.p true (PV.v (Value.int IntKind.i64 (↑x.1 : Int)))), ((56 : Nat), AV.p true (PV.v (Value.bool (decide ((↑x.1 : Int) < IntKind.i64.wrap ((↑d.m : Int).tdiv (2 : Int)))))))] [((2 : Nat), Ob.box [AV.own (1014 : Nat), AV.own (2014 : Nat)]), ((3 : Nat), Ob.box [AV.own (1016 : Nat), AV.own (2016 : Nat)]), ((1014 : Nat), Ob.row Mode.u false (1 : Nat) d.n (TR d.f) []), ((2014 : Nat), Ob.row Mode.u false (1 : Nat) d.m (RR d.w d.h) []), ((5 : Nat), Ob.box [AV.own (1014 : Nat), AV.own (2014 : Nat)]), ((1016 : Nat), Ob.row Mode.u false (1 : Nat) d.n (TR d.f) []), ((2016 : Nat), Ob.row Mode.f false (1 : Nat) d.m (RR x.2.1 x.2.2) []), ((6 : Nat), Ob.box [AV.own (1016 : Nat), AV.own (2016 : Nat)])]))) := by intros; kernel_rfl
def st_dSB2 (nn : Bool) (n : Nat) (f : Nat → Int) (d : DT) (q : Nat) (w : Nat → Nat) (h : Nat → Nat → Int) : St := ⟨[(2, .adr 2 0), (3, .adr 3 0), (4, .adr 1010 0), (5, .adr 5 0), (6, .adr 6 0)], [(2, nilB), (3, nilB), (1010, RD nn n f q), (1014, .row .u false 1 d.n (TR d.f) []), (2014, .row .u false 1 d.m (RR d.w d.h) []), (5, .box [.own 1014, .own 2014]), (1016, .row .u false 1 d.n (TR d.f) []), (2016, .row .u false 1 d.m (RR w h) []), (6, .box [.own 1016, .own 2016])]⟩
def st_dSB3 (nn : Bool) (n : Nat) (f : Nat → Int) (d : DT) (q : Nat) (w : Nat → Nat) (h : Nat → Nat → Int) : St := ((st_dSB2 nn n f d q w h).setOb 2016 (.row .u false 1 d.m (RR w h) [(0, 0, 77)])).setOb 77 (.row .u false 1 (w 0) (fun j _ => PI (h 0 j)) [])
def r_dSB3 (nn : Bool) (n : Nat) (f : Nat → Int) (d : DT) (q : Nat) (w : Nat → Nat) (h : Nat → Nat → Int) := (G0, res35, ([] : List (Nat × Ob)), [Item.ir ir35_C1, Item.bend 0, Item.ir ir35_T2], st_dSB3 nn n f d q w h)
theorem evr_dSB3 : ∀ (nn : Bool) (n : Nat) (f : Nat → Int) (d : DT) (q : Nat) (w : Nat → Nat) (h : Nat → Nat → Int), ev G0 res35 [] (3000 : Nat) (Or.call [(1010 : Nat)] (AI (pickV n f q (2 : Int))) [((0 : Nat), RD nn n f (q + (1 : Nat)))] Or.nil) [Item.ir ir35_C1, Item.bend (0 : Nat), Item.ir ir35_T2] (st_dSB3 nn n f d q w h) = VC.need ((0 : Int) ≤ (0 : Int) ∧ Int.toNat (0 : Int) < d.m) (VC.need ((0 : Nat) < d.m ∧ (0 : Nat) = (0 : Nat)) (VC.need ((0 : Int) ≤ (0 : Int) ∧ Int.toNat (0 : Int) < d.m) (VC.need ((0 : Nat) < d.m ∧ (0 : Nat) = (0 : Nat)) (VC.need ((0 : Int) ≤ (0 : Int) ∧ Int.toNat (0 : Int) < w (0 : Nat)) (VC.need ((0 : Nat) < w (0 : Nat)) (VC.call (87 : Nat) [AV.adr (0 : Nat) (0 : Nat), AV.p true (PV.v (Value.int IntKind.i64 (2 : Int)))] [((0 : Nat), Ob.box [AV.p false (PV.sl nn (1 : Nat) n (PB f)), AV.p true (PV.v (Value.int IntKind.i64 (↑q : Int)))])] (AI (pickV n f q (2 : Int))) [((0 : Nat), RD nn n f (q + (1 : Nat)))] (VC.need ((0 : Int) ≤ (0 : Int) ∧ Int.toNat (0 : Int) < w (0 : Nat)) (VC.need ((0 : Nat) < w (0 : Nat)) (VC.done (St.mk [((2 : Nat), AV.adr (2 : Nat) (0 : Nat)), ((3 : Nat), AV.adr (3 : Nat) (0 : Nat)), ((4 : Nat), AV.adr (1010 : Nat) (0 : Nat)), ((5 : Nat), AV.adr (5 : Nat) (0 : Nat)), ((6 : Nat), AV.adr (6 : Nat) (0 : Nat))] [((2 : Nat), Ob.box [AV.own (1014 : Nat), AV.own (2014 : Nat)]), ((3 : Nat), Ob.box [AV.own (1016 : Nat), AV.own (2016 : Nat)]), ((1010 : Nat), Ob.box [AV.p false (PV.sl nn (1 : Nat) n (PB f)), AV.p true (PV.v (Value.int IntKind.i64 (↑(q + (1 : Nat)) : Int)))]), ((1014 : Nat), Ob.row Mode.u false (1 : Nat) d.n (TR d.f) []), ((2014 : Nat), Ob.row Mode.u false (1 : Nat) d.m (RR d.w d.h) []), ((5 : Nat), Ob.box [AV.own (1014 : Nat), AV.own (2014 : Nat)]), ((1016 : Nat), Ob.row Mode.u false (1 : Nat) d.n (TR d.f) []), ((2016 : Nat), Ob.row Mode.u false (1 : Nat) d.m (cellSet (RR w h) (0 : Nat) (nat_lit 0) (PV.sl false (1 : Nat) (w (0 : Nat)) (setG [((0 : Nat), (0 : Nat), PV.v (Value.int IntKind.i64 (IntKind.i64.wrap (h (0 : Nat) (0 : Nat) + pickV n f q (2 : Int)))))] fun (j x : Nat) => PI (h (0 : Nat) j)))) []), ((6 : Nat), Ob.box [AV.own (1016 : Nat), AV.own (2016 : Nat)])])))))))))) := by intros; kernel_rfl
abbrev sbR (_ : DT × DT) : AV := .tp [.ag [.own 0, .own 1], .ag [.own 2, .own 3]]
abbrev sbH (y : DT × DT) : List (Nat × Ob) := [(0, .row .u false 1 y.1.n (TR y.1.f) []), (1, .row .u false 1 y.1.m (RR y.1.w y.1.h) []), (2, .row .u false 1 y.2.n (TR y.2.f) []), (3, .row .f false 1 y.2.m (RR y.2.w y.2.h) [])]
theorem sr_ds {d : DT} (h : DsOk d) (p : Nat) : DsOk ⟨srN d.n d.f d.m d.w d.h, d.f, srM d.n d.f d.m d.w d.h, wL (srtA d.m d.w d.h), hL (srtA d.m d.w d.h), p⟩ := by
  have hp : (srtA d.m d.w d.h).Perm (tabL d.m d.w d.h) := srtL_perm' _ _
  have e1 : srN d.n d.f d.m d.w d.h ≤ d.n := by unfold srN; split <;> omega
  have e2 : srM d.n d.f d.m d.w d.h ≤ d.m := by unfold srM; split <;> omega
  have w1 := perm_w hp h.hw
  have w2 := perm_w hp h.ok.hw
  have k1 := h.ok.hn
  have k2 := h.ok.hm
  have k3 := h.hn
  have k4 := h.hm
  exact ⟨⟨by simp only []; omega, fun i hi => h.ok.hf i (by simp only [] at hi; omega), by simp only []; omega, fun i hi => w2 i (by simp only [] at hi; omega)⟩, by simp only []; omega, by simp only []; omega, fun i hi => w1 i (by simp only [] at hi; omega)⟩
theorem ds_rows {d : DT} (h : DsOk d) {w : Nat → Nat} (hw : ∀ i, i < d.m → w i ≤ 10) (g : Nat → Nat → Int) (p : Nat) : DsOk ⟨d.n, d.f, d.m, w, g, p⟩ :=
  ⟨⟨h.ok.hn, h.ok.hf, h.ok.hm, fun i hi => by have := hw i hi; simp only []; omega⟩, h.hn, h.hm, hw⟩
theorem c_dSB (nn : Bool) (n : Nat) (f : Nat → Int) (hb : Bytes f) : PSome Tryd.prog G0 35 [.p false (.sl nn 1 n (PB f))] [] (DT × DT) (fun y => DsOk y.1 ∧ DsOk y.2) sbR sbH := by
  refine PCall.by chk35 rfl (ev_dSB nn n f) ?_
  simp only [VC.holds_split, VC.holds_need, VC.holds_doneP, VC.holds_done, VC.holds_either, VC.holds_call, VC.holds_callE, VC.holds_lend, VC.holds_stop, VC.holds_fail, decide_eq_true_eq, decide_eq_false_iff_not]
  have r1 := pick_rng (n := openN n) (p := 0) (m := 3) hb (by omega) (by omega)
  refine ⟨c_open _ _ _, c_pick _ _ _ _ _ hb (by omega), c_dTab _ _ _ _ _ _ hb (by omega) (by omega), fun d hd => ?_⟩
  have dk := hd.ds
  have ok := dk.ok
  have hp := hd.hp
  have hm := hd.hm
  refine ⟨c_cpA _ _ _ _ _ ok.hn ok.hm ok.hw, c_pick _ _ _ _ _ hb (by omega), fun h1 => ⟨c_spSR _ _ _ _ _ ok, ?_⟩, fun h1 => ⟨fun h2 => ?_, fun h2 => ⟨fun h3 => ⟨c_dTab _ _ _ _ _ _ hb (by omega) (by omega), fun d2 hd2 => ?_⟩, fun h3 => ⟨fun h4 => ⟨by omega, by omega, fun h5 => ?_, fun h5 => ?_⟩, fun h4 => ?_⟩⟩⟩⟩
  · refine ResOk.mk [] [(0, 1014), (1, 2014), (2, 1048), (3, 2048)] [] _ _ ?_ ⟨(d, _), ⟨dk, sr_ds dk 0⟩, rfl, rfl⟩
    simp [doneC, resOf, resAV, tup, pinR, PV.Le_self, hbs, St.lowers, St.lower, stLe, leEnv, leObs, obLe, injB, pinC, AV.leC, AV.leCs, PV.leC, PV.Le_v, St.get, St.obj, look, rho, isNew, keptC, renH, Mode.ok, Mode.isZ, PV.isVal, PV.isNilSl, List.all_nil, List.all_cons, List.any_nil, List.any_cons, List.map_nil, List.map_cons, res35, sbH]
  · refine loop_by (st_dSB1 d) (fun x => x.1 ≤ d.m ∧ ∀ i, i < d.m → x.2.1 i ≤ 10) (fun x => d.m - x.1) (0, d.w, d.h) [(2016, .f)] [] [] ⟨Nat.zero_le _, dk.hw⟩ ?_ (evr_dSB1 d) fun x hx => ?_
    · simp [st_dSB1, hbs, St.lowers, St.lower, stLe, leEnv, leObs, obLe, injB, pinC, AV.leC, AV.leCs, PV.leC, PV.Le_v, St.get, St.obj, look, rho, isNew, keptC, renH, Mode.ok, Mode.isZ, PV.isVal, PV.isNilSl, List.all_nil, List.all_cons, List.any_nil, List.any_cons, List.map_nil, List.map_cons, PV.Le_self, Mode.low, St.setOb, ins]
    · obtain ⟨k, w, h⟩ := x
      obtain ⟨hk, hw⟩ := hx
      simp only [] at hk hw
      have ek : IntKind.i64.wrap ((k : Int) + 1) = ((k + 1 : Nat) : Int) := wrap_in (by omega) (by omega)
      have eq : IntKind.i64.wrap ((d.m : Int).tdiv 2) = ((d.m / 2 : Nat) : Int) := by
        rw [Int.tdiv_eq_ediv_of_nonneg (by omega)]; exact (wrap_in (by omega) (by omega)).trans (by omega)
      simp only [VC.holds_split, VC.holds_need, VC.holds_doneP, VC.holds_done, VC.holds_either, VC.holds_call, VC.holds_callE, VC.holds_lend, VC.holds_stop, VC.holds_fail, decide_eq_true_eq, decide_eq_false_iff_not, eq, Int.toNat_natCast]
      refine ⟨by omega, fun h0 => ?_, fun h0 => ?_⟩
      · have hkm : k < d.m / 2 := by simp at h0; omega
        have e1 : IntKind.i64.wrap ((d.m : Int) - 1) = ((d.m - 1 : Nat) : Int) := (wrap_in (by omega) (by omega)).trans (by omega)
        have e2 : IntKind.i64.wrap (((d.m - 1 : Nat) : Int) - (k : Int)) = ((d.m - 1 - k : Nat) : Int) := (wrap_in (by omega) (by omega)).trans (by omega)
        simp only [e1, e2, Int.toNat_natCast]
        refine ⟨⟨by omega, by omega⟩, by omega, ⟨by omega, by omega⟩, by omega, ⟨by omega, by omega⟩, by omega, ⟨by omega, by omega⟩, by omega, Again.mk (k + 1, (fun i => if i = d.m - 1 - k then w k else if i = k then w (d.m - 1 - k) else w i), fun i => if i = d.m - 1 - k then h k else if i = k then h (d.m - 1 - k) else h i) [] [] [] ⟨by simp only []; omega, fun i hi => ?_⟩ (by simp only []; omega) ?_⟩
        · simp only []
          split
          · exact hw k (by omega)
          · split
            · exact hw _ (by omega)
            · exact hw i hi
        · simp [st_dSB1, hbs, St.lowers, St.lower, stLe, leEnv, leObs, obLe, injB, pinC, AV.leC, AV.leCs, PV.leC, PV.Le_v, St.get, St.obj, look, rho, isNew, keptC, renH, Mode.ok, Mode.isZ, PV.isVal, PV.isNilSl, List.all_nil, List.all_cons, List.any_nil, List.any_cons, List.map_nil, List.map_cons, PV.Le_self, ek]
          intro i hi
          by_cases c1 : i = d.m - 1 - k
          · subst c1
            simp [setG, cellSet]
            exact sl_le (by simp) fun a ha => by simp; exact .refl _
          · by_cases c2 : i = k
            · subst c2
              simp [setG, cellSet, c1]
              exact sl_le (by simp [c1]) fun a ha => by simp [c1]; exact .refl _
            · simp [setG, cellSet, c1, c2]
              exact RR_le (by simp [c1, c2]) fun a ha => by simp [c1, c2]
      · refine ResOk.mk [] [(0, 1014), (1, 2014), (2, 1016), (3, 2016)] [] _ _ ?_ ⟨(d, ⟨d.n, d.f, d.m, w, h, 0⟩), ⟨dk, ds_rows dk hw h 0⟩, rfl, rfl⟩
        simp [doneC, resOf, resAV, tup, pinR, PV.Le_self, hbs, St.lowers, St.lower, stLe, leEnv, leObs, obLe, injB, pinC, AV.leC, AV.leCs, PV.leC, PV.Le_v, St.get, St.obj, look, rho, isNew, keptC, renH, Mode.ok, Mode.isZ, PV.isVal, PV.isNilSl, List.all_nil, List.all_cons, List.any_nil, List.any_cons, List.map_nil, List.map_cons, res35, sbH]
  · refine ResOk.mk [(2091, .f)] [(0, 1014), (1, 2014), (2, 1091), (3, 2091)] [] _ _ ?_ ⟨(d, d2), ⟨dk, hd2.ds⟩, rfl, rfl⟩
    simp [doneC, resOf, resAV, tup, pinR, PV.Le_self, hbs, St.lowers, St.lower, stLe, leEnv, leObs, obLe, injB, pinC, AV.leC, AV.leCs, PV.leC, PV.Le_v, St.get, St.obj, look, rho, isNew, keptC, renH, Mode.ok, Mode.isZ, PV.isVal, PV.isNilSl, List.all_nil, List.all_cons, List.any_nil, List.any_cons, List.map_nil, List.map_cons, res35, sbH, Mode.low, St.setOb, ins]
  · have h4' : 0 < d.m := by simpa using h4
    have h5' : 0 < d.w 0 := by simpa using h5
    refine M.via ((Wk.mk [] [] [] (s' := st_dSB2 nn (openN n) f d (d.p + 1) d.w d.h) ?_).trans (Wk.lend (s := st_dSB2 nn (openN n) f d (d.p + 1) d.w d.h) (i := 2016) (e := 77) (k := 0) (j := 0) rfl h4' (by omega) rfl rfl rfl (by omega))) (evr_dSB3 nn (openN n) f d (d.p + 1) d.w d.h) ?_
    · simp [st_dSB2, hbs, St.lowers, St.lower, stLe, leEnv, leObs, obLe, injB, pinC, AV.leC, AV.leCs, PV.leC, PV.Le_v, St.get, St.obj, look, rho, isNew, keptC, renH, Mode.ok, Mode.isZ, PV.isVal, PV.isNilSl, List.all_nil, List.all_cons, List.any_nil, List.any_cons, List.map_nil, List.map_cons, PV.Le_self]
      intro i hi
      by_cases c : i = 0
      · subst c; simp [cellSet]; exact .refl _
      · simp [cellSet, c]; exact .refl _
    · simp only [VC.holds_split, VC.holds_need, VC.holds_doneP, VC.holds_done, VC.holds_either, VC.holds_call, VC.holds_callE, VC.holds_lend, VC.holds_stop, VC.holds_fail, decide_eq_true_eq, decide_eq_false_iff_not]
      refine ⟨⟨by omega, by omega⟩, ⟨by omega, trivial⟩, ⟨by omega, by omega⟩, ⟨by omega, trivial⟩, ⟨by omega, by omega⟩, by omega, c_pick _ _ _ _ _ hb (by omega), ⟨by omega, by omega⟩, by omega, ?_⟩
      generalize IntKind.i64.wrap (d.h 0 0 + pickV (openN n) f (d.p + 1) 2) = V at *
      refine ResOk.mk [(2016, .f)] [(0, 1014), (1, 2014), (2, 1016), (3, 2016)] [] _ _ ?_ ⟨(d, ⟨d.n, d.f, d.m, d.w, fun i j => if i = 0 ∧ j = 0 then V else d.h i j, 0⟩), ⟨dk, ds_rows dk dk.hw _ 0⟩, rfl, rfl⟩
      simp [doneC, resOf, resAV, tup, pinR, PV.Le_self, hbs, St.lowers, St.lower, stLe, leEnv, leObs, obLe, injB, pinC, AV.leC, AV.leCs, PV.leC, PV.Le_v, St.get, St.obj, look, rho, isNew, keptC, renH, Mode.ok, Mode.isZ, PV.isVal, PV.isNilSl, List.all_nil, List.all_cons, List.any_nil, List.any_cons, List.map_nil, List.map_cons, res35, sbH, Mode.low, St.setOb, ins]
      intro i hi
      by_cases c : i = 0
      · subst c
        simp [cellSet]
        refine sl_le rfl fun j hj => ?_
        by_cases c2 : j = 0
        · subst c2; simp [setG, cellSet]; exact .refl _
        · simp [setG, cellSet, c2]; exact .refl _
      · simp [cellSet, c]; exact RR_le rfl fun j hj => by simp [c]
  · refine ResOk.mk [(2016, .f)] [(0, 1014), (1, 2014), (2, 1016), (3, 2016)] [] _ _ ?_ ⟨(d, d), ⟨dk, dk⟩, rfl, rfl⟩
    simp [doneC, resOf, resAV, tup, pinR, PV.Le_self, hbs, St.lowers, St.lower, stLe, leEnv, leObs, obLe, injB, pinC, AV.leC, AV.leCs, PV.leC, PV.Le_v, St.get, St.obj, look, rho, isNew, keptC, renH, Mode.ok, Mode.isZ, PV.isVal, PV.isNilSl, List.all_nil, List.all_cons, List.any_nil, List.any_cons, List.map_nil, List.map_cons, res35, sbH, Mode.low, St.setOb, ins]
    intro i hi
    by_cases c : i = 0
    · subst c; simp [cellSet]; exact .refl _
    · simp [cellSet, c]; exact .refl _
  · refine ResOk.mk [(2016, .f)] [(0, 1014), (1, 2014), (2, 1016), (3, 2016)] [] _ _ ?_ ⟨(d, d), ⟨dk, dk⟩, rfl, rfl⟩
    simp [doneC, resOf, resAV, tup, pinR, PV.Le_self, hbs, St.lowers, St.lower, stLe, leEnv, leObs, obLe, injB, pinC, AV.leC, AV.leCs, PV.leC, PV.Le_v, St.get, St.obj, look, rho, isNew, keptC, renH, Mode.ok, Mode.isZ, PV.isVal, PV.isNilSl, List.all_nil, List.all_cons, List.any_nil, List.any_cons, List.map_nil, List.map_cons, res35, sbH, Mode.low, St.setOb, ins]
def in_lSB (nn : Bool) (n : Nat) (f : Nat → Int) := (G0, res6, ([] : List (Nat × Ob)), [Item.ir ir6], start [.p false (.sl nn 1 n (PB f))] [])
theorem ev_lSB : ∀ (nn : Bool) (n : Nat) (f : Nat → Int), ev G0 res6 [] (3000 : Nat) (Or.nil.split (Or.callE [] (DT × DT) (fun (y : DT × DT) => DsOk y.fst ∧ DsOk y.snd) sbR sbH fun (y : DT × DT) => Or.call [] (AB (bagB y.1.n y.1.f y.1.m y.1.w y.1.h y.2.n y.2.f y.2.m y.2.w y.2.h)) [] (Or.call [] (AB (bagB y.1.n y.1.f y.1.m y.1.w y.1.h y.2.n y.2.f y.2.m y.2.w y.2.h)) [] (Or.nil.lit.lit.lit.lit.lit.lit.split (Or.call [] (AB (bagB y.2.n y.2.f y.2.m y.2.w y.2.h y.1.n y.1.f y.1.m y.1.w y.1.h)) [] (Or.nil.split (Or.stop (2 : Nat))).lit.lit).lit.lit.lit)))) [Item.ir ir6] (start [AV.p false (PV.sl nn (1 : Nat) n (PB f))] []) = VC.split (decide ((1048576 : Int) < (↑n : Int))) (VC.doneP (AV.p true (PV.v (Value.bool true)))) (VC.callE (DT × DT) (35 : Nat) [AV.p false (PV.sl nn (1 : Nat) n (PB f))] [] (fun (y : DT × DT) => DsOk y.fst ∧ DsOk y.snd) sbR sbH fun (y : DT × DT) => VC.call (34 : Nat) [AV.ag [AV.p false (PV.sl false (1 : Nat) y.1.n (TR y.1.f)), AV.p false (PV.sl false (1 : Nat) y.1.m (RR y.1.w y.1.h))], AV.ag [AV.p false (PV.sl false (1 : Nat) y.2.n (TR y.2.f)), AV.p false (PV.sl false (1 : Nat) y.2.m (RR y.2.w y.2.h))]] [] (AB (bagB y.1.n y.1.f y.1.m y.1.w y.1.h y.2.n y.2.f y.2.m y.2.w y.2.h)) [] (VC.call (36 : Nat) [AV.ag [AV.p false (PV.sl false (1 : Nat) y.1.n (TR y.1.f)), AV.p false (PV.sl false (1 : Nat) y.1.m (RR y.1.w y.1.h))], AV.ag [AV.p false (PV.sl false (1 : Nat) y.2.n (TR y.2.f)), AV.p false (PV.sl false (1 : Nat) y.2.m (RR y.2.w y.2.h))]] [] (AB (bagB y.1.n y.1.f y.1.m y.1.w y.1.h y.2.n y.2.f y.2.m y.2.w y.2.h)) [] (VC.split (!bagB y.1.n y.1.f y.1.m y.1.w y.1.h y.2.n y.2.f y.2.m y.2.w y.2.h == bagB y.1.n y.1.f y.1.m y.1.w y.1.h y.2.n y.2.f y.2.m y.2.w y.2.h) (VC.doneP (AV.p true (PV.v (Value.bool false)))) (VC.call (34 : Nat) [AV.ag [AV.p false (PV.sl false (1 : Nat) y.2.n (TR y.2.f)), AV.p false (PV.sl false (1 : Nat) y.2.m (RR y.2.w y.2.h))], AV.ag [AV.p false (PV.sl false (1 : Nat) y.1.n (TR y.1.f)), AV.p false (PV.sl false (1 : Nat) y.1.m (RR y.1.w y.1.h))]] [] (AB (bagB y.2.n y.2.f y.2.m y.2.w y.2.h y.1.n y.1.f y.1.m y.1.w y.1.h)) [] (VC.split (!bagB y.1.n y.1.f y.1.m y.1.w y.1.h y.2.n y.2.f y.2.m y.2.w y.2.h == bagB y.2.n y.2.f y.2.m y.2.w y.2.h y.1.n y.1.f y.1.m y.1.w y.1.h) (VC.doneP (AV.p true (PV.v (Value.bool false)))) (VC.stop [Item.ir ir6_C1, Item.ir ir6_D1] (St.mk [((0 : Nat), AV.p false (PV.sl nn (1 : Nat) n (PB f))), ((2 : Nat), AV.p true (PV.v (Value.bool false))), ((9 : Nat), AV.p true (PV.v (Value.bool (decide ((1048576 : Int) < (↑n : Int)))))), ((3 : Nat), AV.adr (3 : Nat) (0 : Nat)), ((4 : Nat), AV.adr (4 : Nat) (0 : Nat)), ((5 : Nat), AV.p true (PV.v (Value.bool (bagB y.1.n y.1.f y.1.m y.1.w y.1.h y.2.n y.2.f y.2.m y.2.w y.2.h)))), ((29 : Nat), AV.p true (PV.v (Value.bool !bagB y.1.n y.1.f y.1.m y.1.w y.1.h y.2.n y.2.f y.2.m y.2.w y.2.h == bagB y.2.n y.2.f y.2.m y.2.w y.2.h y.1.n y.1.f y.1.m y.1.w y.1.h)))] [((1012 : Nat), Ob.row Mode.u false (1 : Nat) y.1.n (TR y.1.f) []), ((2012 : Nat), Ob.row Mode.u false (1 : Nat) y.1.m (RR y.1.w y.1.h) []), ((3012 : Nat), Ob.row Mode.u false (1 : Nat) y.2.n (TR y.2.f) []), ((4012 : Nat), Ob.row Mode.f false (1 : Nat) y.2.m (RR y.2.w y.2.h) []), ((3 : Nat), Ob.box [AV.own (1012 : Nat), AV.own (2012 : Nat)]), ((4 : Nat), Ob.box [AV.own (3012 : Nat), AV.own (4012 : Nat)])]))))))) := by intros; kernel_rfl
def st_lSB (d : DT) : St := ⟨[(2, AB false), (3, .adr 3 0)], [(3, .box [.p true (.sl false 1 d.n (TR d.f)), .p true (.sl false 1 d.m (RR d.w d.h))])]⟩
def r_lSB (d : DT) := (G0, res6, ([] : List (Nat × Ob)), [Item.ir ir6_C1, Item.ir ir6_D1], st_lSB d)
theorem evr_lSB : ∀ (d : DT), ev G0 res6 [] (3000 : Nat) (Or.stop (18 : Nat)) [Item.ir ir6_C1, Item.ir ir6_D1] (st_lSB d) = VC.need ((((0 : Nat) + d.m) * (24 : Nat) ≤ (140737488355328 : Nat) ∧ (↑((0 : Nat) + d.m) : Int) ≤ (9223372036854775807 : Int)) ∧ allOne (1 : Nat) d.m (RR d.w d.h)) (VC.need ((0 : Int) ≤ (↑d.n : Int) ∧ (↑d.n : Int) ≤ (↑d.n : Int) ∧ (↑(8 : Nat) : Int) * (↑d.n : Int) ≤ (281474976710656 : Int) ∧ (↑d.n : Int) ≤ (9223372036854775807 : Int)) (VC.need ((((0 : Nat) + d.m + (1 : Nat)) * (24 : Nat) ≤ (140737488355328 : Nat) ∧ (↑((0 : Nat) + d.m + (1 : Nat)) : Int) ≤ (9223372036854775807 : Int)) ∧ allOne (1 : Nat) (1 : Nat) (setG [((0 : Nat), (0 : Nat), PV.sl true (1 : Nat) (↑d.n : Int).toNat fun (x j : Nat) => PV.v ([Value.int IntKind.i64 (0 : Int)].getD j undef))] fun (x j : Nat) => PV.v ([Value.slice none (0 : Nat) (0 : Nat)].getD j undef))) (VC.stop [Item.ir ir6_D1] (St.mk [((2 : Nat), AV.p true (PV.v (Value.bool false))), ((3 : Nat), AV.adr (3 : Nat) (0 : Nat)), ((6 : Nat), AV.adr (6 : Nat) (0 : Nat))] [((3 : Nat), Ob.box [AV.p true (PV.sl false (1 : Nat) d.n (TR d.f)), AV.p true (PV.sl false (1 : Nat) d.m (RR d.w d.h))]), ((41 : Nat), Ob.row Mode.f true (1 : Nat) ((0 : Nat) + d.m + (1 : Nat)) (fun (a b : Nat) => if a < (0 : Nat) + d.m then if a < (0 : Nat) then setG [] (fun (x j : Nat) => PV.v ([Value.slice none (0 : Nat) (0 : Nat)].getD j undef)) a b else RR d.w d.h (a - (0 : Nat)) b else setG [((0 : Nat), (0 : Nat), PV.sl true (1 : Nat) (↑d.n : Int).toNat fun (x j : Nat) => PV.v ([Value.int IntKind.i64 (0 : Int)].getD j undef))] (fun (x j : Nat) => PV.v ([Value.slice none (0 : Nat) (0 : Nat)].getD j undef)) (a - ((0 : Nat) + d.m)) b) []), ((6 : Nat), Ob.box [AV.p true (PV.sl false (1 : Nat) d.n (TR d.f)), AV.own (41 : Nat)])])))) := by intros; kernel_rfl
def mwL (d : DT) (i : Nat) : Nat := if i < d.m then d.w i else d.n
def mhL (d : DT) (i j : Nat) : Int := if i < d.m then d.h i j else 0
def st_lSB2 (d : DT) : St := ⟨[(2, AB false), (3, .adr 3 0), (6, .adr 6 0)], [(3, .box [.p true (.sl false 1 d.n (TR d.f)), .p true (.sl false 1 d.m (RR d.w d.h))]), (6, .box [.p true (.sl false 1 d.n (TR d.f)), .p true (.sl false 1 (d.m + 1) (RR (mwL d) (mhL d)))])]⟩
def r_lSB2 (d : DT) := (G0, res6, ([] : List (Nat × Ob)), [Item.ir ir6_D1], st_lSB2 d)
theorem evr_lSB2 : ∀ (d : DT), ev G0 res6 [] (3000 : Nat) (Or.call [] (AB (bagB d.n d.f d.m d.w d.h d.n d.f d.m d.w d.h)) [] (Or.call [] (AB (tableB d.n d.f d.m d.w d.h)) [] ((Or.call [] (AB (bagB d.n d.f d.m d.w d.h d.n d.f (d.m + (1 : Nat)) (mwL d) (mhL d))) [] ((Or.call [] (AB true) [] Or.nil.lit).split Or.nil.lit).lit.lit).lit.lit.split Or.nil.lit.lit.lit.lit.lit.lit))) [Item.ir ir6_D1] (st_lSB2 d) = VC.call (34 : Nat) [AV.ag [AV.p false (PV.sl false (1 : Nat) d.n (TR d.f)), AV.p false (PV.sl false (1 : Nat) d.m (RR d.w d.h))], AV.ag [AV.p false (PV.sl false (1 : Nat) d.n (TR d.f)), AV.p false (PV.sl false (1 : Nat) d.m (RR d.w d.h))]] [] (AB (bagB d.n d.f d.m d.w d.h d.n d.f d.m d.w d.h)) [] (VC.call (37 : Nat) [AV.ag [AV.p false (PV.sl false (1 : Nat) d.n (TR d.f)), AV.p false (PV.sl false (1 : Nat) d.m (RR d.w d.h))]] [] (AB (tableB d.n d.f d.m d.w d.h)) [] (VC.split (bagB d.n d.f d.m d.w d.h d.n d.f d.m d.w d.h == tableB d.n d.f d.m d.w d.h) (VC.call (34 : Nat) [AV.ag [AV.p false (PV.sl false (1 : Nat) d.n (TR d.f)), AV.p false (PV.sl false (1 : Nat) d.m (RR d.w d.h))], AV.ag [AV.p false (PV.sl false (1 : Nat) d.n (TR d.f)), AV.p false (PV.sl false (1 : Nat) (d.m + (1 : Nat)) (RR (mwL d) (mhL d)))]] [] (AB (bagB d.n d.f d.m d.w d.h d.n d.f (d.m + (1 : Nat)) (mwL d) (mhL d))) [] (VC.split (!bagB d.n d.f d.m d.w d.h d.n d.f (d.m + (1 : Nat)) (mwL d) (mhL d)) (VC.call (19 : Nat) [] [] (AB true) [] (VC.doneP (AV.p true (PV.v (Value.bool true))))) (VC.doneP (AV.p true (PV.v (Value.bool false)))))) (VC.doneP (AV.p true (PV.v (Value.bool false)))))) := by intros; kernel_rfl
theorem c_lSB (nn : Bool) (n : Nat) (f : Nat → Int) (hb : Bytes f) : PRet Tryd.prog G0 6 [.p false (.sl nn 1 n (PB f))] (AB true) := by
  refine PRet.by chk6 (ev_lSB nn n f) ?_
  simp only [VC.holds_split, VC.holds_need, VC.holds_doneP, VC.holds_done, VC.holds_either, VC.holds_call, VC.holds_callE, VC.holds_lend, VC.holds_stop, VC.holds_fail, decide_eq_true_eq, decide_eq_false_iff_not]
  refine ⟨fun h => by simp, fun h => ⟨c_dSB nn n f hb, fun y hy => ?_⟩⟩
  obtain ⟨d, e⟩ := y
  obtain ⟨hd, he⟩ := hy
  simp only [] at hd he ⊢
  rw [bagB_comm e.n e.f e.m e.w e.h d.n d.f d.m d.w d.h]
  have k1 := c_imSB d.n d.f d.m d.w d.h e.n e.f e.m e.w e.h hd.ok he.ok
  have k2 := c_spSB d.n d.f d.m d.w d.h e.n e.f e.m e.w e.h hd.ok he.ok
  have k3 := c_imSB e.n e.f e.m e.w e.h d.n d.f d.m d.w d.h he.ok hd.ok
  rw [bagB_comm e.n e.f e.m e.w e.h d.n d.f d.m d.w d.h] at k3
  generalize bagB d.n d.f d.m d.w d.h e.n e.f e.m e.w e.h = B at *
  refine ⟨k1, k2, fun h1 => (by simp at h1), fun _ => ⟨k3, fun h1 => (by simp at h1), fun _ => ?_⟩⟩
  refine M.by [(2012, .f)] [] [] ?_ (evr_lSB d) ?_
  · simp [st_lSB, hbs, St.lowers, St.lower, stLe, leEnv, leObs, obLe, injB, pinC, AV.leC, AV.leCs, PV.leC, PV.Le_v, St.get, St.obj, look, rho, isNew, keptC, renH, Mode.ok, Mode.isZ, PV.isVal, PV.isNilSl, List.all_nil, List.all_cons, List.any_nil, List.any_cons, List.map_nil, List.map_cons, PV.Le_self, Mode.low, St.setOb, ins]
  · simp only [VC.holds_split, VC.holds_need, VC.holds_doneP, VC.holds_done, VC.holds_either, VC.holds_call, VC.holds_callE, VC.holds_lend, VC.holds_stop, VC.holds_fail, decide_eq_true_eq, decide_eq_false_iff_not]
    have b1 := hd.ok.hn
    have b2 := hd.ok.hm
    refine ⟨⟨⟨by omega, by omega⟩, allOne_RR⟩, ⟨by omega, by omega, by simp; omega, by omega⟩, ⟨⟨by omega, by omega⟩, ?_⟩, M.by [] [] [] ?_ (evr_lSB2 d) ?_⟩
    · intro i j hi hj
      obtain rfl : i = 0 := by omega
      obtain rfl : j = 0 := by omega
      rfl
    · simp [st_lSB2, hbs, St.lowers, St.lower, stLe, leEnv, leObs, obLe, injB, pinC, AV.leC, AV.leCs, PV.leC, PV.Le_v, St.get, St.obj, look, rho, isNew, keptC, renH, Mode.ok, Mode.isZ, PV.isVal, PV.isNilSl, List.all_nil, List.all_cons, List.any_nil, List.any_cons, List.map_nil, List.map_cons, PV.Le_self]
      intro i hi
      by_cases c : i < d.m
      · simp [c]; exact RR_le (by simp [mwL, c]) fun j hj => by simp [mhL, c]
      · obtain rfl : i = d.m := by omega
        simp [setG, cellSet]
        refine .sl _ _ (fun e => (by cases e)) 1 _ _ _ _ (by simp [mwL]) fun j l hj hl => ?_
        obtain rfl : l = 0 := by omega
        simp [mhL]; exact .refl _
    · have okm : TaOk d.n d.f (d.m + 1) (mwL d) := by
        have := hd.hm
        have := hd.hn
        refine ⟨hd.ok.hn, hd.ok.hf, by omega, fun i hi => ?_⟩
        unfold mwL
        split
        · exact hd.ok.hw i (by omega)
        · omega
      have bs := c_imSB d.n d.f d.m d.w d.h d.n d.f (d.m + 1) (mwL d) (mhL d) hd.ok okm
      have bb := c_imSB d.n d.f d.m d.w d.h d.n d.f d.m d.w d.h hd.ok hd.ok
      have tv := c_imTV false false d.n d.f d.m d.w d.h hd.ok.hn hd.ok.hf hd.ok.hm hd.ok.hw
      rw [bag_more _ _ _ _ _ _ _ _ _ _ (by omega)] at bs
      rw [bag_self] at bb
      simp only [VC.holds_split, VC.holds_need, VC.holds_doneP, VC.holds_done, VC.holds_either, VC.holds_call, VC.holds_callE, VC.holds_lend, VC.holds_stop, VC.holds_fail, decide_eq_true_eq, decide_eq_false_iff_not, bag_self, bag_more d.n d.f d.m d.w d.h d.n d.f (d.m + 1) (mwL d) (mhL d) (by omega)]
      exact ⟨bb, tv, fun _ => ⟨bs, fun _ => ⟨c_alive, by simp⟩, fun e => (by cases e)⟩, fun e => (by simp at e)⟩
theorem law_FnSameBag (xs : List AV) (h : Args Tryd.prog Tryd.f6.params.toList xs) : PRet Tryd.prog G0 6 xs (AB true) := by
  have hp : Tryd.f6.params.toList = [22] := by kernel_rfl
  rw [hp] at h
  obtain ⟨nn, n, f, c, cs, hb, h2, rfl, hle⟩ := args_bytes h
  cases h2
  exact (c_lSB nn n f hb).args ⟨hle, trivial⟩
def in_lBO (nn : Bool) (n : Nat) (f : Nat → Int) := (G0, res11, ([] : List (Nat × Ob)), [Item.ir ir11], start [.p false (.sl nn 1 n (PB f))] [])
theorem ev_lBO : ∀ (nn : Bool) (n : Nat) (f : Nat → Int), ev G0 res11 [] (3000 : Nat) (Or.nil.split (Or.callE [] (DT × DT) (fun (y : DT × DT) => DsOk y.fst ∧ DsOk y.snd) sbR sbH fun (y : DT × DT) => Or.call [] (AB (bagB y.1.n y.1.f y.1.m y.1.w y.1.h y.2.n y.2.f y.2.m y.2.w y.2.h)) [] (Or.call [] (AB (bagB y.1.n y.1.f y.1.m y.1.w y.1.h y.2.n y.2.f y.2.m y.2.w y.2.h)) [] (Or.nil.split ((Or.call [] (AB true) [] Or.nil).lit.lit.lit.lit.lit.split ((Or.call [] (AB true) [] Or.nil).split (Or.call [] (orR y.1.n y.1.f y.1.m y.1.w y.1.h (y.1.f (0 : Nat))) (orH y.1.n y.1.f y.1.m y.1.w y.1.h (y.1.f (0 : Nat)) true) (Or.call [] (orR y.2.n y.2.f y.2.m y.2.w y.2.h (y.1.f (0 : Nat))) (orH y.2.n y.2.f y.2.m y.2.w y.2.h (y.1.f (0 : Nat)) true) (((Or.call [] (AB (sameT (orN y.1.n y.1.f y.1.m y.1.w y.1.h (y.1.f (0 : Nat))) y.1.f (orN y.2.n y.2.f y.2.m y.2.w y.2.h (y.1.f (0 : Nat))) y.2.f && sameR (orM y.1.n y.1.f y.1.m y.1.w y.1.h (y.1.f (0 : Nat))) (wL (orS y.1.n y.1.f y.1.m y.1.w y.1.h (y.1.f (0 : Nat)) true)) (hL (orS y.1.n y.1.f y.1.m y.1.w y.1.h (y.1.f (0 : Nat)) true)) (orM y.2.n y.2.f y.2.m y.2.w y.2.h (y.1.f (0 : Nat))) (wL (orS y.2.n y.2.f y.2.m y.2.w y.2.h (y.1.f (0 : Nat)) true)) (hL (orS y.2.n y.2.f y.2.m y.2.w y.2.h (y.1.f (0 : Nat)) true)))) [] Or.nil.lit).lit.lit.split Or.nil.lit.lit.lit).lit.split Or.nil.lit.lit.lit.lit.lit)))).lit.lit.lit.lit))))) [Item.ir ir11] (start [AV.p false (PV.sl nn (1 : Nat) n (PB f))] []) = VC.split (decide ((1048576 : Int) < (↑n : Int))) (VC.doneP (AV.p true (PV.v (Value.bool true)))) (VC.callE (DT × DT) (35 : Nat) [AV.p false (PV.sl nn (1 : Nat) n (PB f))] [] (fun (y : DT × DT) => DsOk y.fst ∧ DsOk y.snd) sbR sbH fun (y : DT × DT) => VC.call (34 : Nat) [AV.ag [AV.p false (PV.sl false (1 : Nat) y.1.n (TR y.1.f)), AV.p false (PV.sl false (1 : Nat) y.1.m (RR y.1.w y.1.h))], AV.ag [AV.p false (PV.sl false (1 : Nat) y.2.n (TR y.2.f)), AV.p false (PV.sl false (1 : Nat) y.2.m (RR y.2.w y.2.h))]] [] (AB (bagB y.1.n y.1.f y.1.m y.1.w y.1.h y.2.n y.2.f y.2.m y.2.w y.2.h)) [] (VC.call (36 : Nat) [AV.ag [AV.p false (PV.sl false (1 : Nat) y.1.n (TR y.1.f)), AV.p false (PV.sl false (1 : Nat) y.1.m (RR y.1.w y.1.h))], AV.ag [AV.p false (PV.sl false (1 : Nat) y.2.n (TR y.2.f)), AV.p false (PV.sl false (1 : Nat) y.2.m (RR y.2.w y.2.h))]] [] (AB (bagB y.1.n y.1.f y.1.m y.1.w y.1.h y.2.n y.2.f y.2.m y.2.w y.2.h)) [] (VC.split (!bagB y.1.n y.1.f y.1.m y.1.w y.1.h y.2.n y.2.f y.2.m y.2.w y.2.h == bagB y.1.n y.1.f y.1.m y.1.w y.1.h y.2.n y.2.f y.2.m y.2.w y.2.h) (VC.doneP (AV.p true (PV.v (Value.bool false)))) (VC.split (!bagB y.1.n y.1.f y.1.m y.1.w y.1.h y.2.n y.2.f y.2.m y.2.w y.2.h) (VC.call (19 : Nat) [] [] (AB true) [] (VC.doneP (AV.p true (PV.v (Value.bool true))))) (VC.split ((↑y.1.n : Int) == (0 : Int)) (VC.call (19 : Nat) [] [] (AB true) [] (VC.doneP (AV.p true (PV.v (Value.bool true))))) (VC.need ((0 : Int) ≤ (0 : Int) ∧ Int.toNat (0 : Int) < y.1.n) (VC.need ((0 : Nat) < y.1.n) (VC.call (44 : Nat) [AV.ag [AV.p false (PV.sl false (1 : Nat) y.1.n (TR y.1.f)), AV.p false (PV.sl false (1 : Nat) y.1.m (RR y.1.w y.1.h))], AV.p true (PV.v (Value.string (y.1.f (0 : Nat)))), AV.p true (PV.v (Value.bool true))] [] (orR y.1.n y.1.f y.1.m y.1.w y.1.h (y.1.f (0 : Nat))) (orH y.1.n y.1.f y.1.m y.1.w y.1.h (y.1.f (0 : Nat)) true) (VC.need ((0 : Int) ≤ (0 : Int) ∧ Int.toNat (0 : Int) < y.1.n) (VC.need ((0 : Nat) < y.1.n) (VC.call (44 : Nat) [AV.ag [AV.p false (PV.sl false (1 : Nat) y.2.n (TR y.2.f)), AV.p false (PV.sl false (1 : Nat) y.2.m (RR y.2.w y.2.h))], AV.p true (PV.v (Value.string (y.1.f (0 : Nat)))), AV.p true (PV.v (Value.bool true))] [] (orR y.2.n y.2.f y.2.m y.2.w y.2.h (y.1.f (0 : Nat))) (orH y.2.n y.2.f y.2.m y.2.w y.2.h (y.1.f (0 : Nat)) true) (VC.split (orB y.1.n y.1.f y.1.m y.1.w y.1.h (y.1.f (0 : Nat))) (VC.split (orB y.2.n y.2.f y.2.m y.2.w y.2.h (y.1.f (0 : Nat))) (VC.call (31 : Nat) [AV.ag [AV.p false (PV.sl false (1 : Nat) (orN y.1.n y.1.f y.1.m y.1.w y.1.h (y.1.f (0 : Nat))) (TR y.1.f)), AV.p false (PV.sl false (1 : Nat) (orM y.1.n y.1.f y.1.m y.1.w y.1.h (y.1.f (0 : Nat))) (RR (wL (orS y.1.n y.1.f y.1.m y.1.w y.1.h (y.1.f (0 : Nat)) true)) (hL (orS y.1.n y.1.f y.1.m y.1.w y.1.h (y.1.f (0 : Nat)) true))))], AV.ag [AV.p false (PV.sl false (1 : Nat) (orN y.2.n y.2.f y.2.m y.2.w y.2.h (y.1.f (0 : Nat))) (TR y.2.f)), AV.p false (PV.sl false (1 : Nat) (orM y.2.n y.2.f y.2.m y.2.w y.2.h (y.1.f (0 : Nat))) (RR (wL (orS y.2.n y.2.f y.2.m y.2.w y.2.h (y.1.f (0 : Nat)) true)) (hL (orS y.2.n y.2.f y.2.m y.2.w y.2.h (y.1.f (0 : Nat)) true))))]] [] (AB (sameT (orN y.1.n y.1.f y.1.m y.1.w y.1.h (y.1.f (0 : Nat))) y.1.f (orN y.2.n y.2.f y.2.m y.2.w y.2.h (y.1.f (0 : Nat))) y.2.f && sameR (orM y.1.n y.1.f y.1.m y.1.w y.1.h (y.1.f (0 : Nat))) (wL (orS y.1.n y.1.f y.1.m y.1.w y.1.h (y.1.f (0 : Nat)) true)) (hL (orS y.1.n y.1.f y.1.m y.1.w y.1.h (y.1.f (0 : Nat)) true)) (orM y.2.n y.2.f y.2.m y.2.w y.2.h (y.1.f (0 : Nat))) (wL (orS y.2.n y.2.f y.2.m y.2.w y.2.h (y.1.f (0 : Nat)) true)) (hL (orS y.2.n y.2.f y.2.m y.2.w y.2.h (y.1.f (0 : Nat)) true)))) [] (VC.doneP (AV.p true (PV.v (Value.bool (sameT (orN y.1.n y.1.f y.1.m y.1.w y.1.h (y.1.f (0 : Nat))) y.1.f (orN y.2.n y.2.f y.2.m y.2.w y.2.h (y.1.f (0 : Nat))) y.2.f && sameR (orM y.1.n y.1.f y.1.m y.1.w y.1.h (y.1.f (0 : Nat))) (wL (orS y.1.n y.1.f y.1.m y.1.w y.1.h (y.1.f (0 : Nat)) true)) (hL (orS y.1.n y.1.f y.1.m y.1.w y.1.h (y.1.f (0 : Nat)) true)) (orM y.2.n y.2.f y.2.m y.2.w y.2.h (y.1.f (0 : Nat))) (wL (orS y.2.n y.2.f y.2.m y.2.w y.2.h (y.1.f (0 : Nat)) true)) (hL (orS y.2.n y.2.f y.2.m y.2.w y.2.h (y.1.f (0 : Nat)) true)))))))) (VC.doneP (AV.p true (PV.v (Value.bool false))))) (VC.doneP (AV.p true (PV.v (Value.bool false)))))))))))))))) := by intros; kernel_rfl
theorem c_lBO (nn : Bool) (n : Nat) (f : Nat → Int) (hb : Bytes f) : PRet Tryd.prog G0 11 [.p false (.sl nn 1 n (PB f))] (AB true) := by
  refine PRet.by chk11 (ev_lBO nn n f) ?_
  simp only [VC.holds_split, VC.holds_need, VC.holds_doneP, VC.holds_done, VC.holds_either, VC.holds_call, VC.holds_callE, VC.holds_lend, VC.holds_stop, VC.holds_fail, decide_eq_true_eq, decide_eq_false_iff_not]
  refine ⟨fun h => by simp, fun h => ⟨c_dSB nn n f hb, fun y hy => ?_⟩⟩
  obtain ⟨d, e⟩ := y
  obtain ⟨hd, he⟩ := hy
  simp only [] at hd he ⊢
  have k1 := c_imSB d.n d.f d.m d.w d.h e.n e.f e.m e.w e.h hd.ok he.ok
  have k2 := c_spSB d.n d.f d.m d.w d.h e.n e.f e.m e.w e.h hd.ok he.ok
  refine ⟨k1, k2, fun h1 => (by simp at h1), fun _ => ⟨fun h1 => ⟨c_alive, by simp⟩, fun h1 => ⟨fun h2 => ⟨c_alive, by simp⟩, fun h2 => ?_⟩⟩⟩
  have hB : bagB d.n d.f d.m d.w d.h e.n e.f e.m e.w e.h = true := by simpa using h1
  have hn : 0 < d.n := by simp at h2; omega
  obtain ⟨t1, t2, t3, t4⟩ := bagB_iff.1 hB
  obtain ⟨n1, n2⟩ := sameT_iff.1 t3
  have c1 : colT d.f (d.f 0) d.n = 0 := colT_zero hn
  have c2 : colT e.f (d.f 0) e.n = 0 := (colT_same _ t3).symm.trans c1
  have o1 : orB d.n d.f d.m d.w d.h (d.f 0) = true := by simp [orB, t1, c1]
  have o2 : orB e.n e.f e.m e.w e.h (d.f 0) = true := by simp [orB, t2, c2]
  have s1 : orS d.n d.f d.m d.w d.h (d.f 0) true = srtO 0 true d.m d.w d.h := by simp [orS, c1]
  have s2 : orS e.n e.f e.m e.w e.h (d.f 0) true = srtO 0 true d.m d.w d.h := by rw [srtO_congr t4]; simp [orS, c2]
  have em : d.m = e.m := by have := t4.length_eq; rwa [tabL_len, tabL_len] at this
  have q1 := c_imOR d.n d.f d.m d.w d.h (d.f 0) true hd.ok
  have q2 := c_imOR e.n e.f e.m e.w e.h (d.f 0) true he.ok
  simp only [orR, orH, (or_yes o1).1, (or_yes o1).2, (or_yes o2).1, (or_yes o2).2, o1, o2, s1, s2] at q1 q2 ⊢
  simp only [← em] at q2 ⊢
  have hp : (srtO 0 true d.m d.w d.h).Perm (tabL d.m d.w d.h) := srtL_perm' _ _
  have hw := perm_w hp hd.ok.hw
  generalize srtO 0 true d.m d.w d.h = A at *
  have st := c_sTb d.n d.f d.m (wL A) (hL A) e.n e.f d.m (wL A) (hL A) hd.ok.hn hd.ok.hm hw
  refine ⟨⟨by omega, by omega⟩, by omega, q1, ⟨by omega, by omega⟩, by omega, q2, fun _ => ⟨fun _ => ⟨st, ?_⟩, fun e => (by cases e)⟩, fun e => (by cases e)⟩
  simp [t3, sameR_rfl]
theorem law_FnBagOrder (xs : List AV) (h : Args Tryd.prog Tryd.f11.params.toList xs) : PRet Tryd.prog G0 11 xs (AB true) := by
  have hp : Tryd.f11.params.toList = [22] := by kernel_rfl
  rw [hp] at h
  obtain ⟨nn, n, f, c, cs, hb, h2, rfl, hle⟩ := args_bytes h
  cases h2
  exact (c_lBO nn n f hb).args ⟨hle, trivial⟩
end Go.Gw
