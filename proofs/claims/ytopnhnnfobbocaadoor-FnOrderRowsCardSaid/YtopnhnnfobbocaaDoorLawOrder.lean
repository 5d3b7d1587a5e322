/- Ordered rows are the rows: the law FnOrderRows; with no condition. -/
import Derived.Test.YtopnhnnfobbocaaDoorLawSort
import Derived.KernelRfl
namespace Go.Gw
open Go Go.Proofs
set_option linter.unusedSimpArgs false
set_option linter.unusedVariables false
set_option maxRecDepth 100000
def ir43 : Ir :=
  (.seq
  (.reg [] [o 2 (.alloc [(.slice none 0 0), (.slice none 0 0)]),
    o 3 (.mov (.const (.string ⟨#[]⟩))),
    o 4 (.mov (cb false))])
  (.seq
  (.reg [7, 8] [o 7 (.mov (tt 0)),
    o 8 (.call 85 [(tt 7)]),
    o 5 (.mov (tt 8))])
  (.seq
  (.reg [9, 10] [o 9 (.mov (tt 5)),
    o 10 (.call 86 [(tt 9), (ci 0), (ci 9)]),
    o 6 (.alloc [(.slice none 0 0), (.slice none 0 0)]),
    on (.store 2 (tt 6) (tt 10))])
  (.seq
  (.dreg [11, 12, 13, 14, 15, 16, 17, 18, 19, 20, 21, 22] [0, 0, 0, 0, 8, 28, 60, 126, 254, 0, 536, 1560, 1561, 6143, 16383] [(0, 1011), (0, 2011), (1, 12), (2, 13), (4, 1015), (4, 2015), (4, 3015), (4, 4015), (4, 5015), (4, 6015), (4, 7015), (4, 8015), (6, 1017), (8, 1019), (10, 1021), (10, 2021), (10, 3021), (10, 4021), (10, 5021), (10, 6021), (10, 7021), (10, 8021)] [o 11 (.load true 2 (tt 6)),
    o 12 (.mkSl 1 4 [(.string ⟨#[]⟩)] [(0, (.const (.string ⟨#[97]⟩))), (1, (.const (.string ⟨#[98]⟩))), (2, (.const (.string ⟨#[120]⟩))), (3, (.const (.string ⟨#[]⟩)))]),
    o 13 (.mkSl 1 6 [(.int .i64 0)] [(0, (ci 0)), (1, (ci 0)), (2, (ci 1)), (3, (ci 1)), (4, (ci 2)), (5, (ci 3))]),
    o 14 (.mov (tt 5)),
    o 15 (.call 87 [(tt 14), (ci 6)]),
    o 16 (.idx 1 (tt 13) (tt 15)),
    o 17 (.load false 1 (tt 16)),
    o 18 (.idx 1 (tt 12) (tt 17)),
    o 19 (.load false 1 (tt 18)),
    o 20 (.mov (tt 5)),
    o 21 (.call 87 [(tt 20), (ci 2)]),
    o 22 (.bin .eql (tt 21) (ci 0)),
    on (.store 2 (tt 2) (tt 11)),
    o 3 (.mov (tt 19)),
    o 4 (.mov (tt 22))])
  .ret))))
def keep43 : List Nat := [0, 2, 3, 4, 5, 6]
def res43 : List RI := [.cell true 2 2, .tmp 3, .tmp 4]
theorem chk43 : chk Tryd.prog 43 1 keep43 = some (ir43, res43) := by kernel_rfl
def ir46 : Ir :=
  (.seq
  (.reg [] [o 2 (.box 2 (tt 0)),
    o 4 (.mov (ci 0))])
  (.seq
  (.seq
  (.reg [5, 6] [o 5 (.load true 2 (tt 2)),
    o 6 (.call 37 [(tt 5)]),
    o 7 (.un .not (tt 6))])
  (.cond (tt 7)
   (.seq
   (.reg [] [o 4 (.mov (ci (-1)))])
   .ret)
   .skip))
  (.seq
  (.reg [8, 9, 10, 11] [o 8 (.fadr 0 (tt 2)),
    o 9 (.load false 1 (tt 8)),
    o 10 (.mov (tt 1)),
    o 11 (.call 113 [(tt 9), (tt 10)]),
    o 4 (.mov (tt 11))])
  .ret)))
def keep46 : List Nat := [0, 1, 2, 4, 7]
def res46 : List RI := [.tmp 4]
theorem chk46 : chk Tryd.prog 46 2 keep46 = some (ir46, res46) := by kernel_rfl
def ir10_L1 : Ir :=
  (.seq
  (.seq
  (.reg [62, 63, 64, 65] [o 62 (.mov (tt 11)),
    o 63 (.fadr 1 (tt 6)),
    o 64 (.load false 1 (tt 63)),
    o 65 (.len (tt 64)),
    o 66 (.bin .lss (tt 62) (tt 65))])
  (.cond (tt 66)
   .skip
   (.exit 0)))
  (.seq
  (.block 1
   (.seq
   (.dreg [69, 70, 71, 72, 73, 74, 75, 76, 77, 78, 79, 80, 81, 82, 83, 84, 85, 86, 87, 88, 89, 90, 91, 92, 93, 94, 95, 96, 97, 98, 99, 100, 101, 102, 103, 104, 105, 106, 107, 108, 109, 110, 111, 112, 113, 114, 115, 116, 117, 118, 119, 120, 121, 122, 123, 124, 125, 126, 127, 128, 129, 130, 131, 132, 133, 134, 135, 136, 137] [0, 1, 3, 7, 7, 23, 7, 119, 247, 503, 1023, 2047, 4095, 8191, 8191, 24575, 8191, 73727, 253951, 516095, 1040383, 2097151, 4194303, 8388607, 16777215, 33554431, 67108863, 134217727, 268435455, 134217727, 1073741823, 2147483647, 134217727, 8589934591, 17179869183, 134217727, 34493956095, 134217727, 137573171199, 515530293247, 1065286107135, 134217727, 4363820990463, 8761867501567, 17592186044415, 35184372088831, 70368744177663, 140737488355327, 281474976710655, 562949953421311, 1125899906842623, 2251799813685247, 1125899906842623, 9007199254740991, 18014398509481983, 1125899906842623, 72057594037927935, 144115188075855871, 1125899906842623, 289356276058554367, 1125899906842623, 1154047404513689599, 4324581542182518783, 8936267560609906687, 1125899906842623, 36606383671174234111, 73499871818593337343, 147573952589676412927, 295147905179352825855, 590295810358705651711] [(5, 1074), (8, 1077), (15, 1084), (19, 1088), (28, 1097), (31, 1100), (34, 1103), (36, 1105), (40, 1109), (43, 1112), (51, 1120), (54, 1123), (57, 1126), (59, 1128), (63, 1132), (66, 1135)] [o 69 (.mov (tt 10)),
     o 70 (.bin .lss (tt 69) (ci 0)),
     o 71 (.mov (tt 70)),
     og 72 71 false (.mov (tt 10)),
     og 73 71 false (.fadr 1 (tt 6)),
     og 74 71 false (.load false 1 (tt 73)),
     og 75 71 false (.mov (tt 11)),
     og 76 71 false (.idx 1 (tt 74) (tt 75)),
     og 77 71 false (.load false 1 (tt 76)),
     og 78 71 false (.len (tt 77)),
     og 79 71 false (.bin .geq (tt 72) (tt 78)),
     o 80 (.pick (tt 71) (cb true) (tt 79)),
     o 81 (.mov (tt 80)),
     og 82 81 false (.mov (tt 10)),
     og 83 81 false (.fadr 1 (tt 6)),
     og 84 81 false (.load false 1 (tt 83)),
     og 85 81 false (.mov (tt 11)),
     og 86 81 false (.bin .sub (tt 85) (ci 1)),
     og 87 81 false (.idx 1 (tt 84) (tt 86)),
     og 88 81 false (.load false 1 (tt 87)),
     og 89 81 false (.len (tt 88)),
     og 90 81 false (.bin .geq (tt 82) (tt 89)),
     o 91 (.pick (tt 81) (cb true) (tt 90)),
     o 92 (.mov (tt 91)),
     og 93 92 false (.mov (tt 5)),
     og 94 92 false (.un .not (tt 93)),
     og 95 92 false (.mov (tt 94)),
     og 96 95 true (.fadr 1 (tt 6)),
     og 97 95 true (.load false 1 (tt 96)),
     og 98 95 true (.mov (tt 11)),
     og 99 95 true (.idx 1 (tt 97) (tt 98)),
     og 100 95 true (.load false 1 (tt 99)),
     og 101 95 true (.mov (tt 10)),
     og 102 95 true (.idx 1 (tt 100) (tt 101)),
     og 103 95 true (.load false 1 (tt 102)),
     og 104 95 true (.fadr 1 (tt 6)),
     og 105 95 true (.load false 1 (tt 104)),
     og 106 95 true (.mov (tt 11)),
     og 107 95 true (.bin .sub (tt 106) (ci 1)),
     og 108 95 true (.idx 1 (tt 105) (tt 107)),
     og 109 95 true (.load false 1 (tt 108)),
     og 110 95 true (.mov (tt 10)),
     og 111 95 true (.idx 1 (tt 109) (tt 110)),
     og 112 95 true (.load false 1 (tt 111)),
     og 113 95 true (.bin .lss (tt 103) (tt 112)),
     og 114 92 false (.pick (tt 95) (tt 113) (cb false)),
     o 115 (.pick (tt 92) (cb true) (tt 114)),
     o 116 (.mov (tt 115)),
     og 117 116 false (.mov (tt 5)),
     og 118 116 false (.mov (tt 117)),
     og 119 118 true (.fadr 1 (tt 6)),
     og 120 118 true (.load false 1 (tt 119)),
     og 121 118 true (.mov (tt 11)),
     og 122 118 true (.idx 1 (tt 120) (tt 121)),
     og 123 118 true (.load false 1 (tt 122)),
     og 124 118 true (.mov (tt 10)),
     og 125 118 true (.idx 1 (tt 123) (tt 124)),
     og 126 118 true (.load false 1 (tt 125)),
     og 127 118 true (.fadr 1 (tt 6)),
     og 128 118 true (.load false 1 (tt 127)),
     og 129 118 true (.mov (tt 11)),
     og 130 118 true (.bin .sub (tt 129) (ci 1)),
     og 131 118 true (.idx 1 (tt 128) (tt 130)),
     og 132 118 true (.load false 1 (tt 131)),
     og 133 118 true (.mov (tt 10)),
     og 134 118 true (.idx 1 (tt 132) (tt 133)),
     og 135 118 true (.load false 1 (tt 134)),
     og 136 118 true (.bin .gtr (tt 126) (tt 135)),
     og 137 116 false (.pick (tt 118) (tt 136) (cb false)),
     o 138 (.pick (tt 116) (cb true) (tt 137))])
   (.cond (tt 138)
    (.seq
    (.reg [] [o 2 (.mov (cb false))])
    .ret)
    .skip)))
  (.reg [67, 68] [o 67 (.mov (tt 11)),
    o 68 (.bin .add (tt 67) (ci 1)),
    o 11 (.mov (tt 68))])))
def ir10_L2 : Ir :=
  (.seq
  (.seq
  (.reg [146] [o 146 (.mov (tt 13)),
    o 147 (.bin .geq (tt 146) (ci 0))])
  (.cond (tt 147)
   .skip
   (.exit 2)))
  (.seq
  (.block 3
   (.dreg [150, 151, 152, 153, 154, 155, 156, 157, 158, 159] [0, 1, 0, 4, 0, 28, 60, 124, 255, 511, 1023] [(1, 1151), (3, 1153), (6, 1156), (7, 157), (8, 158)] [o 150 (.fadr 1 (tt 12)),
     o 151 (.load false 1 (tt 150)),
     o 152 (.fadr 1 (tt 3)),
     o 153 (.load false 1 (tt 152)),
     o 154 (.mov (tt 13)),
     o 155 (.idx 1 (tt 153) (tt 154)),
     o 156 (.load false 1 (tt 155)),
     o 157 (.mkSl 1 1 [(.slice none 0 0)] [(0, (tt 156))]),
     o 158 (.app 1 24 false (tt 151) (tt 157)),
     o 159 (.fadr 1 (tt 12)),
     on (.store 1 (tt 159) (tt 158))]))
  (.reg [148, 149] [o 148 (.mov (tt 13)),
    o 149 (.bin .sub (tt 148) (ci 1)),
    o 13 (.mov (tt 149))])))
def ir10_T3 : Ir :=
  (.seq
  (.reg [161, 162, 163, 164, 160, 165, 166, 15] [o 161 (.load true 2 (tt 6)),
    o 162 (.mov (tt 4)),
    o 163 (.mov (tt 5)),
    o 164 (.call 44 [(tt 161), (tt 162), (tt 163)]),
    o 160 (.mov (tt 164)),
    o 165 (.ext (tt 160) 0),
    o 166 (.ext (tt 160) 1),
    o 14 (.alloc [(.slice none 0 0), (.slice none 0 0)]),
    on (.store 2 (tt 14) (tt 165)),
    o 15 (.mov (tt 166))])
  (.seq
  (.reg [168, 169, 170, 171, 167, 172, 173, 17] [o 168 (.load true 2 (tt 12)),
    o 169 (.mov (tt 4)),
    o 170 (.mov (tt 5)),
    o 171 (.call 44 [(tt 168), (tt 169), (tt 170)]),
    o 167 (.mov (tt 171)),
    o 172 (.ext (tt 167) 0),
    o 173 (.ext (tt 167) 1),
    o 16 (.alloc [(.slice none 0 0), (.slice none 0 0)]),
    on (.store 2 (tt 16) (tt 172)),
    o 17 (.mov (tt 173))])
  (.seq
  (.reg [174, 175, 176, 177, 178, 179, 180, 181, 182, 183, 184, 185, 186] [o 174 (.load true 2 (tt 6)),
    o 175 (.load true 2 (tt 3)),
    o 176 (.call 34 [(tt 174), (tt 175)]),
    o 177 (.mov (tt 176)),
    og 178 177 true (.load true 2 (tt 14)),
    og 179 177 true (.load true 2 (tt 6)),
    og 180 177 true (.call 31 [(tt 178), (tt 179)]),
    o 181 (.pick (tt 177) (tt 180) (cb false)),
    o 182 (.mov (tt 181)),
    og 183 182 true (.load true 2 (tt 16)),
    og 184 182 true (.load true 2 (tt 6)),
    og 185 182 true (.call 31 [(tt 183), (tt 184)]),
    o 186 (.pick (tt 182) (tt 185) (cb false)),
    o 2 (.mov (tt 186))])
  .ret)))
def ir10_T4 : Ir :=
  (.seq
  (.reg [139, 140, 141] [o 139 (.fadr 0 (tt 3)),
    o 140 (.load false 1 (tt 139)),
    o 141 (.build [(.slice none 0 0), (.slice none 0 0)] [(0, 1, (tt 140))]),
    o 12 (.alloc [(.slice none 0 0), (.slice none 0 0)]),
    on (.store 2 (tt 12) (tt 141))])
  (.seq
  (.seq
  (.reg [142, 143, 144, 145] [o 142 (.fadr 1 (tt 3)),
    o 143 (.load false 1 (tt 142)),
    o 144 (.len (tt 143)),
    o 145 (.bin .sub (tt 144) (ci 1)),
    o 13 (.mov (tt 145))])
  (.block 2
   (.loop ir10_L2)))
  ir10_T3))
def ir10 : Ir :=
  (.seq
  (.reg [] [o 2 (.mov (cb false))])
  (.seq
  (.seq
  (.reg [18, 19] [o 18 (.mov (tt 0)),
    o 19 (.len (tt 18)),
    o 20 (.bin .gtr (tt 19) (ci 1048576))])
  (.cond (tt 20)
   (.seq
   (.reg [] [o 2 (.mov (cb true))])
   .ret)
   .skip))
  (.seq
  (.reg [22, 23, 21, 24, 25, 26] [o 22 (.mov (tt 0)),
    o 23 (.call 43 [(tt 22)]),
    o 21 (.mov (tt 23)),
    o 24 (.ext (tt 21) 0),
    o 25 (.ext (tt 21) 1),
    o 26 (.ext (tt 21) 2),
    o 3 (.alloc [(.slice none 0 0), (.slice none 0 0)]),
    on (.store 2 (tt 3) (tt 24)),
    o 4 (.mov (tt 25)),
    o 5 (.mov (tt 26))])
  (.seq
  (.reg [28, 29, 30, 31, 27, 32, 33] [o 28 (.load true 2 (tt 3)),
    o 29 (.mov (tt 4)),
    o 30 (.mov (tt 5)),
    o 31 (.call 44 [(tt 28), (tt 29), (tt 30)]),
    o 27 (.mov (tt 31)),
    o 32 (.ext (tt 27) 0),
    o 33 (.ext (tt 27) 1),
    o 6 (.alloc [(.slice none 0 0), (.slice none 0 0)]),
    on (.store 2 (tt 6) (tt 32)),
    o 7 (.mov (tt 33))])
  (.seq
  (.reg [35, 36, 37, 38, 34, 39, 40] [o 35 (.load true 2 (tt 3)),
    o 36 (.mov (tt 4)),
    o 37 (.mov (tt 5)),
    o 38 (.call 45 [(tt 35), (tt 36), (tt 37)]),
    o 34 (.mov (tt 38)),
    o 39 (.ext (tt 34) 0),
    o 40 (.ext (tt 34) 1),
    o 8 (.alloc [(.slice none 0 0), (.slice none 0 0)]),
    on (.store 2 (tt 8) (tt 39)),
    o 9 (.mov (tt 40))])
  (.seq
  (.seq
  (.reg [41, 42, 43, 44, 45, 46, 47, 48] [o 41 (.load true 2 (tt 6)),
    o 42 (.load true 2 (tt 8)),
    o 43 (.call 31 [(tt 41), (tt 42)]),
    o 44 (.un .not (tt 43)),
    o 45 (.mov (tt 44)),
    og 46 45 false (.mov (tt 7)),
    og 47 45 false (.mov (tt 9)),
    og 48 45 false (.binB .neq (tt 46) (tt 47)),
    o 49 (.pick (tt 45) (cb true) (tt 48))])
  (.cond (tt 49)
   (.seq
   (.reg [] [o 2 (.mov (cb false))])
   .ret)
   .skip))
  (.seq
  (.seq
  (.reg [50] [o 50 (.mov (tt 7)),
    o 51 (.un .not (tt 50))])
  (.cond (tt 51)
   (.seq
   (.reg [52, 53, 54, 55, 56, 57, 58] [o 52 (.fadr 0 (tt 6)),
     o 53 (.load false 1 (tt 52)),
     o 54 (.len (tt 53)),
     o 55 (.bin .eql (tt 54) (ci 0)),
     o 56 (.mov (tt 55)),
     og 57 56 true (.call 19 []),
     o 58 (.pick (tt 56) (tt 57) (cb false)),
     o 2 (.mov (tt 58))])
   .ret)
   .skip))
  (.seq
  (.reg [59, 60, 61] [o 59 (.load true 2 (tt 3)),
    o 60 (.mov (tt 4)),
    o 61 (.call 46 [(tt 59), (tt 60)]),
    o 10 (.mov (tt 61))])
  (.seq
  (.seq
  (.reg [] [o 11 (.mov (ci 1))])
  (.block 0
   (.loop ir10_L1)))
  ir10_T4)))))))))
def keep10 : List Nat := [0, 2, 3, 4, 5, 6, 7, 8, 9, 10, 11, 12, 13, 14, 16, 20, 49, 51, 66, 138, 147]
def res10 : List RI := [.tmp 2]
theorem chk10 : chk Tryd.prog 10 1 keep10 = some (ir10, res10) := by kernel_rfl

def in_dOR (nn : Bool) (n : Nat) (f : Nat → Int) := (G0, res43, ([] : List (Nat × Ob)), [Item.ir ir43], start [.p false (.sl nn 1 n (PB f))] [])
theorem ev_dOR : ∀ (nn : Bool) (n : Nat) (f : Nat → Int), ev G0 res43 [] (3000 : Nat) (Or.call [] (AV.adr (0 : Nat) (0 : Nat)) [((0 : Nat), RD nn (openN n) f (0 : Nat))] (Or.callE [(1008 : Nat)] DT (DtOk (0 : Nat)) dtR (dtH nn (openN n) f) fun (x : DT) => Or.call [(1008 : Nat)] (AI (pickV (openN n) f x.p (6 : Int))) [((0 : Nat), RD nn (openN n) f (x.p + (1 : Nat)))] (Or.call [(1008 : Nat)] (AI (pickV (openN n) f (x.p + (1 : Nat)) (2 : Int))) [((0 : Nat), RD nn (openN n) f (x.p + (1 : Nat) + (1 : Nat)))] Or.nil))) [Item.ir ir43] (start [AV.p false (PV.sl nn (1 : Nat) n (PB f))] []) = VC.call (85 : Nat) [AV.p false (PV.sl nn (1 : Nat) n (PB f))] [] (AV.adr (0 : Nat) (0 : Nat)) [((0 : Nat), RD nn (openN n) f (0 : Nat))] (VC.callE DT (86 : Nat) [AV.adr (0 : Nat) (0 : Nat), AV.p true (PV.v (Value.int IntKind.i64 (0 : Int))), AV.p true (PV.v (Value.int IntKind.i64 (9 : Int)))] [((0 : Nat), Ob.box [AV.p false (PV.sl nn (1 : Nat) (openN n) (PB f)), AV.p true (PV.v (Value.int IntKind.i64 (↑(0 : Nat) : Int)))])] (DtOk (0 : Nat)) dtR (dtH nn (openN n) f) fun (x : DT) => VC.call (87 : Nat) [AV.adr (0 : Nat) (0 : Nat), AV.p true (PV.v (Value.int IntKind.i64 (6 : Int)))] [((0 : Nat), Ob.box [AV.p false (PV.sl nn (1 : Nat) (openN n) (PB f)), AV.p true (PV.v (Value.int IntKind.i64 (↑x.p : Int)))])] (AI (pickV (openN n) f x.p (6 : Int))) [((0 : Nat), RD nn (openN n) f (x.p + (1 : Nat)))] (VC.need ((0 : Int) ≤ pickV (openN n) f x.p (6 : Int) ∧ (pickV (openN n) f x.p (6 : Int)).toNat < (6 : Nat)) (VC.need ((pickV (openN n) f x.p (6 : Int)).toNat < (6 : Nat)) (VC.need ((0 : Int) ≤ litI [(0 : Int), (0 : Int), (1 : Int), (1 : Int), (2 : Int), (3 : Int)] (pickV (openN n) f x.p (6 : Int)).toNat ∧ (litI [(0 : Int), (0 : Int), (1 : Int), (1 : Int), (2 : Int), (3 : Int)] (pickV (openN n) f x.p (6 : Int)).toNat).toNat < (4 : Nat)) (VC.need ((litI [(0 : Int), (0 : Int), (1 : Int), (1 : Int), (2 : Int), (3 : Int)] (pickV (openN n) f x.p (6 : Int)).toNat).toNat < (4 : Nat)) (VC.call (87 : Nat) [AV.adr (0 : Nat) (0 : Nat), AV.p true (PV.v (Value.int IntKind.i64 (2 : Int)))] [((0 : Nat), Ob.box [AV.p false (PV.sl nn (1 : Nat) (openN n) (PB f)), AV.p true (PV.v (Value.int IntKind.i64 (↑(x.p + (1 : Nat)) : Int)))])] (AI (pickV (openN n) f (x.p + (1 : Nat)) (2 : Int))) [((0 : Nat), RD nn (openN n) f (x.p + (1 : Nat) + (1 : Nat)))] (VC.done (St.mk [((0 : Nat), AV.p false (PV.sl nn (1 : Nat) n (PB f))), ((2 : Nat), AV.adr (2 : Nat) (0 : Nat)), ((3 : Nat), AV.p true (PV.v (Value.string (litS [ByteArray.mk #[(97 : UInt8)], ByteArray.mk #[(98 : UInt8)], ByteArray.mk #[(120 : UInt8)], ByteArray.mk #[]] (litI [(0 : Int), (0 : Int), (1 : Int), (1 : Int), (2 : Int), (3 : Int)] (pickV (openN n) f x.p (6 : Int)).toNat).toNat)))), ((4 : Nat), AV.p true (PV.v (Value.bool (pickV (openN n) f (x.p + (1 : Nat)) (2 : Int) == (0 : Int))))), ((5 : Nat), AV.adr (1008 : Nat) (0 : Nat)), ((6 : Nat), AV.adr (6 : Nat) (0 : Nat))] [((2 : Nat), Ob.box [AV.own (1010 : Nat), AV.own (2010 : Nat)]), ((1008 : Nat), Ob.box [AV.p false (PV.sl nn (1 : Nat) (openN n) (PB f)), AV.p true (PV.v (Value.int IntKind.i64 (↑(x.p + (1 : Nat) + (1 : Nat)) : Int)))]), ((1010 : Nat), Ob.row Mode.u false (1 : Nat) x.n (TR x.f) []), ((2010 : Nat), Ob.row Mode.u false (1 : Nat) x.m (RR x.w x.h) []), ((6 : Nat), Ob.box [AV.own (1010 : Nat), AV.own (2010 : Nat)])])))))))) := by intros; kernel_rfl
abbrev doR (y : DT × ByteArray × Bool) : AV := .tp [.ag [.own 0, .own 1], AT y.2.1, AB y.2.2]
theorem c_dOR (nn : Bool) (n : Nat) (f : Nat → Int) (hb : Bytes f) : PSome Tryd.prog G0 43 [.p false (.sl nn 1 n (PB f))] [] (DT × ByteArray × Bool) (fun y => DsOk y.1) doR (fun y => dsH y.1) := by
  refine PCall.by chk43 rfl (ev_dOR nn n f) ?_
  simp only [VC.holds_split, VC.holds_need, VC.holds_doneP, VC.holds_done, VC.holds_either, VC.holds_call, VC.holds_callE, VC.holds_lend, VC.holds_stop, VC.holds_fail, decide_eq_true_eq, decide_eq_false_iff_not]
  refine ⟨c_open _ _ _, c_dTab _ _ _ _ _ _ hb (by omega) (by omega), fun d hd => ?_⟩
  have hp := hd.hp
  have r1 := pick_rng (n := openN n) (p := d.p) (m := 6) hb (by omega) (by omega)
  have r2 := lit_rng (lo := 0) (hi := 3) (l := [0, 0, 1, 1, 2, 3]) (by decide) (i := (pickV (openN n) f d.p 6).toNat) (by simp only [List.length_cons, List.length_nil]; omega)
  refine ⟨c_pick _ _ _ _ _ hb (by omega), ⟨r1.1, by omega⟩, by omega, ⟨r2.1, by omega⟩, by omega, c_pick _ _ _ _ _ hb (by omega), ?_⟩
  generalize litS [⟨#[97]⟩, ⟨#[98]⟩, ⟨#[120]⟩, ⟨#[]⟩] (litI [0, 0, 1, 1, 2, 3] (pickV (openN n) f d.p 6).toNat).toNat = T
  generalize (pickV (openN n) f (d.p + 1) 2 == 0) = B
  refine ResOk.mk [] [(0, 1010), (1, 2010)] [] _ _ ?_ ⟨(d, T, B), hd.ds, rfl, rfl⟩
  simp [doneC, resOf, resAV, tup, pinR, PV.Le_self, hbs, St.lowers, St.lower, stLe, leEnv, leObs, obLe, injB, pinC, AV.leC, AV.leCs, PV.leC, PV.Le_v, St.get, St.obj, look, rho, isNew, keptC, renH, Mode.ok, Mode.isZ, PV.isVal, PV.isNilSl, List.all_nil, List.all_cons, List.any_nil, List.any_cons, List.map_nil, List.map_cons, res43, dsH]
def in_imCO (n : Nat) (f : Nat → ByteArray) (m : Nat) (w : Nat → Nat) (h : Nat → Nat → Int) (s : ByteArray) := (G0, res46, ([] : List (Nat × Ob)), [Item.ir ir46], start [TA false false n f m w h, AT s] [])
theorem ev_imCO : ∀ (n : Nat) (f : Nat → ByteArray) (m : Nat) (w : Nat → Nat) (h : Nat → Nat → Int) (s : ByteArray), ev G0 res46 [] (3000 : Nat) (Or.call [] (AB (tableB n f m w h)) [] (Or.nil.split (Or.call [] (AI (colT f s n)) [] Or.nil))) [Item.ir ir46] (start [TA false false n f m w h, AT s] []) = VC.call (37 : Nat) [AV.ag [AV.p false (PV.sl false (1 : Nat) n fun (i x : Nat) => PT (f i)), AV.p false (PV.sl false (1 : Nat) m (RR w h))]] [] (AB (tableB n f m w h)) [] (VC.split (!tableB n f m w h) (VC.doneP (AV.p true (PV.v (Value.int IntKind.i64 (-1 : Int))))) (VC.call (113 : Nat) [AV.p false (PV.sl false (1 : Nat) n fun (i x : Nat) => PT (f i)), AV.p true (PV.v (Value.string s))] [] (AI (colT f s n)) [] (VC.doneP (AV.p true (PV.v (Value.int IntKind.i64 (colT f s n))))))) := by intros; kernel_rfl
def colC (n : Nat) (f : Nat → ByteArray) (m : Nat) (w : Nat → Nat) (h : Nat → Nat → Int) (s : ByteArray) : Int := if tableB n f m w h then colT f s n else -1
theorem c_imCO (n : Nat) (f : Nat → ByteArray) (m : Nat) (w : Nat → Nat) (h : Nat → Nat → Int) (s : ByteArray) (ok : TaOk n f m w) : PRet Tryd.prog G0 46 [TA false false n f m w h, AT s] (AI (colC n f m w h s)) := by
  refine PRet.by chk46 (ev_imCO n f m w h s) ?_
  simp only [VC.holds_split, VC.holds_need, VC.holds_doneP, VC.holds_done, VC.holds_either, VC.holds_call, VC.holds_callE, VC.holds_lend, VC.holds_stop, VC.holds_fail, decide_eq_true_eq, decide_eq_false_iff_not]
  refine ⟨c_imTV _ _ _ _ _ _ _ ok.hn ok.hf ok.hm ok.hw, fun h1 => ?_, fun h1 => ⟨c_ixT _ _ _ _ ok.hn, ?_⟩⟩
  · have e : tableB n f m w h = false := by simpa using h1
    simp [colC, e]
  · have e : tableB n f m w h = true := by simpa using h1
    simp [colC, e]
def in_lOR (nn : Bool) (n : Nat) (f : Nat → Int) := (G0, res10, ([] : List (Nat × Ob)), [Item.ir ir10], start [.p false (.sl nn 1 n (PB f))] [])
theorem ev_lOR : ∀ (nn : Bool) (n : Nat) (f : Nat → Int), ev G0 res10 [] (3000 : Nat) (Or.nil.split (Or.callE [] (DT × ByteArray × Bool) (fun (y : DT × ByteArray × Bool) => DsOk y.fst) doR (fun (y : DT × ByteArray × Bool) => dsH y.fst) fun (y : DT × ByteArray × Bool) => Or.call [] (orR y.1.n y.1.f y.1.m y.1.w y.1.h y.2.1) (orH y.1.n y.1.f y.1.m y.1.w y.1.h y.2.1 y.2.2) (Or.call [] (orR y.1.n y.1.f y.1.m y.1.w y.1.h y.2.1) (orF y.1.n y.1.f y.1.m y.1.w y.1.h y.2.1 y.2.2) (Or.call [] (AB (sameT (orN y.1.n y.1.f y.1.m y.1.w y.1.h y.2.1) y.1.f (orN y.1.n y.1.f y.1.m y.1.w y.1.h y.2.1) y.1.f && sameR (orM y.1.n y.1.f y.1.m y.1.w y.1.h y.2.1) (wL (orS y.1.n y.1.f y.1.m y.1.w y.1.h y.2.1 y.2.2)) (hL (orS y.1.n y.1.f y.1.m y.1.w y.1.h y.2.1 y.2.2)) (orM y.1.n y.1.f y.1.m y.1.w y.1.h y.2.1) (wL (orS y.1.n y.1.f y.1.m y.1.w y.1.h y.2.1 y.2.2)) (hL (orS y.1.n y.1.f y.1.m y.1.w y.1.h y.2.1 y.2.2)))) [] (Or.nil.lit.lit.lit.lit.split (Or.nil.split (((Or.call [] (AB true) [] Or.nil.lit).split Or.nil.lit).split (Or.call [] (AI (colC y.1.n y.1.f y.1.m y.1.w y.1.h y.2.1)) [] Or.nil))).lit.lit.lit))))) [Item.ir ir10] (start [AV.p false (PV.sl nn (1 : Nat) n (PB f))] []) = VC.split (decide ((1048576 : Int) < (↑n : Int))) (VC.doneP (AV.p true (PV.v (Value.bool true)))) (VC.callE (DT × ByteArray × Bool) (43 : Nat) [AV.p false (PV.sl nn (1 : Nat) n (PB f))] [] (fun (y : DT × ByteArray × Bool) => DsOk y.fst) doR (fun (y : DT × ByteArray × Bool) => dsH y.fst) fun (y : DT × ByteArray × Bool) => VC.call (44 : Nat) [AV.ag [AV.p false (PV.sl false (1 : Nat) y.1.n (TR y.1.f)), AV.p false (PV.sl false (1 : Nat) y.1.m (RR y.1.w y.1.h))], AV.p true (PV.v (Value.string y.2.1)), AV.p true (PV.v (Value.bool y.2.2))] [] (orR y.1.n y.1.f y.1.m y.1.w y.1.h y.2.1) (orH y.1.n y.1.f y.1.m y.1.w y.1.h y.2.1 y.2.2) (VC.call (45 : Nat) [AV.ag [AV.p false (PV.sl false (1 : Nat) y.1.n (TR y.1.f)), AV.p false (PV.sl false (1 : Nat) y.1.m (RR y.1.w y.1.h))], AV.p true (PV.v (Value.string y.2.1)), AV.p true (PV.v (Value.bool y.2.2))] [] (orR y.1.n y.1.f y.1.m y.1.w y.1.h y.2.1) (orF y.1.n y.1.f y.1.m y.1.w y.1.h y.2.1 y.2.2) (VC.call (31 : Nat) [AV.ag [AV.p false (PV.sl false (1 : Nat) (orN y.1.n y.1.f y.1.m y.1.w y.1.h y.2.1) (TR y.1.f)), AV.p false (PV.sl false (1 : Nat) (orM y.1.n y.1.f y.1.m y.1.w y.1.h y.2.1) (RR (wL (orS y.1.n y.1.f y.1.m y.1.w y.1.h y.2.1 y.2.2)) (hL (orS y.1.n y.1.f y.1.m y.1.w y.1.h y.2.1 y.2.2))))], AV.ag [AV.p false (PV.sl false (1 : Nat) (orN y.1.n y.1.f y.1.m y.1.w y.1.h y.2.1) (TR y.1.f)), AV.p false (PV.sl false (1 : Nat) (orM y.1.n y.1.f y.1.m y.1.w y.1.h y.2.1) (RR (wL (orS y.1.n y.1.f y.1.m y.1.w y.1.h y.2.1 y.2.2)) (hL (orS y.1.n y.1.f y.1.m y.1.w y.1.h y.2.1 y.2.2))))]] [] (AB (sameT (orN y.1.n y.1.f y.1.m y.1.w y.1.h y.2.1) y.1.f (orN y.1.n y.1.f y.1.m y.1.w y.1.h y.2.1) y.1.f && sameR (orM y.1.n y.1.f y.1.m y.1.w y.1.h y.2.1) (wL (orS y.1.n y.1.f y.1.m y.1.w y.1.h y.2.1 y.2.2)) (hL (orS y.1.n y.1.f y.1.m y.1.w y.1.h y.2.1 y.2.2)) (orM y.1.n y.1.f y.1.m y.1.w y.1.h y.2.1) (wL (orS y.1.n y.1.f y.1.m y.1.w y.1.h y.2.1 y.2.2)) (hL (orS y.1.n y.1.f y.1.m y.1.w y.1.h y.2.1 y.2.2)))) [] (VC.split (!(sameT (orN y.1.n y.1.f y.1.m y.1.w y.1.h y.2.1) y.1.f (orN y.1.n y.1.f y.1.m y.1.w y.1.h y.2.1) y.1.f && sameR (orM y.1.n y.1.f y.1.m y.1.w y.1.h y.2.1) (wL (orS y.1.n y.1.f y.1.m y.1.w y.1.h y.2.1 y.2.2)) (hL (orS y.1.n y.1.f y.1.m y.1.w y.1.h y.2.1 y.2.2)) (orM y.1.n y.1.f y.1.m y.1.w y.1.h y.2.1) (wL (orS y.1.n y.1.f y.1.m y.1.w y.1.h y.2.1 y.2.2)) (hL (orS y.1.n y.1.f y.1.m y.1.w y.1.h y.2.1 y.2.2)))) (VC.doneP (AV.p true (PV.v (Value.bool false)))) (VC.split (!orB y.1.n y.1.f y.1.m y.1.w y.1.h y.2.1 == orB y.1.n y.1.f y.1.m y.1.w y.1.h y.2.1) (VC.doneP (AV.p true (PV.v (Value.bool false)))) (VC.split (!orB y.1.n y.1.f y.1.m y.1.w y.1.h y.2.1) (VC.split ((↑(orN y.1.n y.1.f y.1.m y.1.w y.1.h y.2.1) : Int) == (0 : Int)) (VC.call (19 : Nat) [] [] (AB true) [] (VC.doneP (AV.p true (PV.v (Value.bool true))))) (VC.doneP (AV.p true (PV.v (Value.bool false))))) (VC.call (46 : Nat) [AV.ag [AV.p false (PV.sl false (1 : Nat) y.1.n (TR y.1.f)), AV.p false (PV.sl false (1 : Nat) y.1.m (RR y.1.w y.1.h))], AV.p true (PV.v (Value.string y.2.1))] [] (AI (colC y.1.n y.1.f y.1.m y.1.w y.1.h y.2.1)) [] (VC.loop ir10_L1 [Item.bend (0 : Nat), Item.ir ir10_T4] (St.mk [((0 : Nat), AV.p false (PV.sl nn (1 : Nat) n (PB f))), ((2 : Nat), AV.p true (PV.v (Value.bool false))), ((20 : Nat), AV.p true (PV.v (Value.bool (decide ((1048576 : Int) < (↑n : Int)))))), ((3 : Nat), AV.adr (3 : Nat) (0 : Nat)), ((4 : Nat), AV.p true (PV.v (Value.string y.2.1))), ((5 : Nat), AV.p true (PV.v (Value.bool y.2.2))), ((6 : Nat), AV.adr (6 : Nat) (0 : Nat)), ((7 : Nat), AV.p true (PV.v (Value.bool (orB y.1.n y.1.f y.1.m y.1.w y.1.h y.2.1)))), ((8 : Nat), AV.adr (8 : Nat) (0 : Nat)), ((9 : Nat), AV.p true (PV.v (Value.bool (orB y.1.n y.1.f y.1.m y.1.w y.1.h y.2.1)))), ((49 : Nat), AV.p true (PV.v (Value.bool !orB y.1.n y.1.f y.1.m y.1.w y.1.h y.2.1 == orB y.1.n y.1.f y.1.m y.1.w y.1.h y.2.1))), ((51 : Nat), AV.p true (PV.v (Value.bool !orB y.1.n y.1.f y.1.m y.1.w y.1.h y.2.1))), ((10 : Nat), AV.p true (PV.v (Value.int IntKind.i64 (colC y.1.n y.1.f y.1.m y.1.w y.1.h y.2.1)))), ((11 : Nat), AV.p true (PV.v (Value.int IntKind.i64 (1 : Int))))] [((1023 : Nat), Ob.row Mode.u false (1 : Nat) y.1.n (TR y.1.f) []), ((2023 : Nat), Ob.row Mode.u false (1 : Nat) y.1.m (RR y.1.w y.1.h) []), ((3 : Nat), Ob.box [AV.own (1023 : Nat), AV.own (2023 : Nat)]), ((1031 : Nat), Ob.row Mode.u false (1 : Nat) (orN y.1.n y.1.f y.1.m y.1.w y.1.h y.2.1) (TR y.1.f) []), ((2031 : Nat), Ob.row Mode.u false (1 : Nat) (orM y.1.n y.1.f y.1.m y.1.w y.1.h y.2.1) (RR (wL (orS y.1.n y.1.f y.1.m y.1.w y.1.h y.2.1 y.2.2)) (hL (orS y.1.n y.1.f y.1.m y.1.w y.1.h y.2.1 y.2.2))) []), ((6 : Nat), Ob.box [AV.own (1031 : Nat), AV.own (2031 : Nat)]), ((1038 : Nat), Ob.row Mode.u false (1 : Nat) (orN y.1.n y.1.f y.1.m y.1.w y.1.h y.2.1) (TR y.1.f) []), ((2038 : Nat), Ob.row Mode.f false (1 : Nat) (orM y.1.n y.1.f y.1.m y.1.w y.1.h y.2.1) (RR (wL (orS y.1.n y.1.f y.1.m y.1.w y.1.h y.2.1 y.2.2)) (hL (orS y.1.n y.1.f y.1.m y.1.w y.1.h y.2.1 y.2.2))) []), ((8 : Nat), Ob.box [AV.own (1038 : Nat), AV.own (2038 : Nat)])]))))))))) := by intros; kernel_rfl
def st_lO1 (d : DT) (s : ByteArray) (dn : Bool) (S : List (List Int)) (c : Int) (k : Nat) : St := ⟨[(2, AB false), (3, .adr 3 0), (4, AT s), (5, AB dn), (6, .adr 6 0), (10, AI c), (11, AI k)], [(3, .box [.p true (.sl false 1 d.n (TR d.f)), .p true (.sl false 1 d.m (RR d.w d.h))]), (6, .box [.p true (.sl false 1 d.n (TR d.f)), .p true (.sl false 1 d.m (RR (wL S) (hL S)))])]⟩
def r_lO1 (d : DT) (s : ByteArray) (dn : Bool) (S : List (List Int)) (c : Int) (I : Nat → St → Prop) (k : Nat) := (G0, res10, ([] : List (Nat × Ob)), [Item.ir ir10_L1, .lend (I k), Item.bend 0, Item.ir ir10_T4], st_lO1 d s dn S c k)
theorem evr_lO1 : ∀ (d : DT) (s : ByteArray) (dn : Bool) (S : List (List Int)) (c : Int) (I : Nat → St → Prop) (k : Nat), ev G0 res10 [] (3000 : Nat) ((Or.nil.lit.lit.lit.lit.lit.lit.lit.lit.lit.lit.lit.lit.lit.lit.lit.lit.lit.lit.lit.lit.lit.lit.lit.lit.lit.lit.lit.lit.split (Or.nil.lit.lit.lit.lit.lit.lit.lit.lit.lit.lit.lit.lit.lit.lit.lit.lit.lit.lit.lit.split (Or.nil.lit.lit.lit.lit.lit.lit.lit.lit.lit.split ((Or.nil.lit.lit.lit.lit.split ((Or.nil.split Or.nil).lit.lit.lit.lit.lit.lit.lit.lit.lit.lit.lit.lit.lit.lit.lit.lit.lit.lit.lit.lit.split Or.nil.lit.lit.lit.lit.lit.lit.lit.lit.lit.lit.lit.lit.lit.lit.lit.lit.lit.lit.lit.lit.lit).lit).lit.lit.lit.lit.lit.lit.lit.lit.lit.lit.lit.lit.lit.lit.lit.lit.lit.lit.lit.lit.split ((Or.nil.split Or.nil).lit.lit.lit.lit.lit.lit.lit.lit.lit.lit.lit.lit.lit.lit.lit.lit.lit.lit.lit.lit.split Or.nil.lit.lit.lit.lit.lit.lit.lit.lit.lit.lit.lit.lit.lit.lit.lit.lit.lit.lit.lit.lit.lit).lit.lit.lit.lit.lit.lit.lit.lit.lit.lit.lit.lit.lit.lit.lit.lit.lit.lit.lit.lit.lit.lit).lit.lit).lit.lit.lit.lit.lit.lit.lit.lit.lit).lit.lit.lit.lit.lit.lit.lit.lit).split Or.nil) [Item.ir ir10_L1, Item.lend (I k), Item.bend (0 : Nat), Item.ir ir10_T4] (st_lO1 d s dn S c k) = VC.split (decide ((↑k : Int) < (↑d.m : Int))) (VC.split (decide (c < (0 : Int))) (VC.doneP (AV.p true (PV.v (Value.bool false)))) (VC.need ((0 : Int) ≤ (↑k : Int) ∧ (↑k : Int).toNat < d.m) (VC.split (decide ((↑(wL S (↑k : Int).toNat) : Int) ≤ c)) (VC.doneP (AV.p true (PV.v (Value.bool false)))) (VC.need ((0 : Int) ≤ IntKind.i64.wrap ((↑k : Int) - (1 : Int)) ∧ (IntKind.i64.wrap ((↑k : Int) - (1 : Int))).toNat < d.m) (VC.split (decide ((↑(wL S (IntKind.i64.wrap ((↑k : Int) - (1 : Int))).toNat) : Int) ≤ c)) (VC.doneP (AV.p true (PV.v (Value.bool false)))) (VC.split (!dn) (VC.need ((0 : Int) ≤ (↑k : Int) ∧ (↑k : Int).toNat < d.m) (VC.need ((0 : Int) ≤ c ∧ c.toNat < wL S (↑k : Int).toNat) (VC.need ((0 : Int) ≤ IntKind.i64.wrap ((↑k : Int) - (1 : Int)) ∧ (IntKind.i64.wrap ((↑k : Int) - (1 : Int))).toNat < d.m) (VC.need ((0 : Int) ≤ c ∧ c.toNat < wL S (IntKind.i64.wrap ((↑k : Int) - (1 : Int))).toNat) (VC.split (decide (hL S (↑k : Int).toNat c.toNat < hL S (IntKind.i64.wrap ((↑k : Int) - (1 : Int))).toNat c.toNat)) (VC.doneP (AV.p true (PV.v (Value.bool false)))) (VC.split dn (VC.need ((0 : Int) ≤ (↑k : Int) ∧ (↑k : Int).toNat < d.m) (VC.need ((0 : Int) ≤ c ∧ c.toNat < wL S (↑k : Int).toNat) (VC.need ((0 : Int) ≤ IntKind.i64.wrap ((↑k : Int) - (1 : Int)) ∧ (IntKind.i64.wrap ((↑k : Int) - (1 : Int))).toNat < d.m) (VC.need ((0 : Int) ≤ c ∧ c.toNat < wL S (IntKind.i64.wrap ((↑k : Int) - (1 : Int))).toNat) (VC.split (decide (hL S (IntKind.i64.wrap ((↑k : Int) - (1 : Int))).toNat c.toNat < hL S (↑k : Int).toNat c.toNat)) (VC.doneP (AV.p true (PV.v (Value.bool false)))) (VC.lend (I k) (St.mk [((2 : Nat), AV.p true (PV.v (Value.bool false))), ((3 : Nat), AV.adr (3 : Nat) (0 : Nat)), ((4 : Nat), AV.p true (PV.v (Value.string s))), ((5 : Nat), AV.p true (PV.v (Value.bool dn))), ((6 : Nat), AV.adr (6 : Nat) (0 : Nat)), ((10 : Nat), AV.p true (PV.v (Value.int IntKind.i64 c))), ((11 : Nat), AV.p true (PV.v (Value.int IntKind.i64 (IntKind.i64.wrap ((↑k : Int) + (1 : Int)))))), ((66 : Nat), AV.p true (PV.v (Value.bool (decide ((↑k : Int) < (↑d.m : Int)))))), ((138 : Nat), AV.p true (PV.v (Value.bool (decide (hL S (IntKind.i64.wrap ((↑k : Int) - (1 : Int))).toNat c.toNat < hL S (↑k : Int).toNat c.toNat)))))] [((3 : Nat), Ob.box [AV.p true (PV.sl false (1 : Nat) d.n (TR d.f)), AV.p true (PV.sl false (1 : Nat) d.m (RR d.w d.h))]), ((6 : Nat), Ob.box [AV.p true (PV.sl false (1 : Nat) d.n (TR d.f)), AV.p true (PV.sl false (1 : Nat) d.m (RR (wL S) (hL S)))])]))))))) (VC.lend (I k) (St.mk [((2 : Nat), AV.p true (PV.v (Value.bool false))), ((3 : Nat), AV.adr (3 : Nat) (0 : Nat)), ((4 : Nat), AV.p true (PV.v (Value.string s))), ((5 : Nat), AV.p true (PV.v (Value.bool dn))), ((6 : Nat), AV.adr (6 : Nat) (0 : Nat)), ((10 : Nat), AV.p true (PV.v (Value.int IntKind.i64 c))), ((11 : Nat), AV.p true (PV.v (Value.int IntKind.i64 (IntKind.i64.wrap ((↑k : Int) + (1 : Int)))))), ((66 : Nat), AV.p true (PV.v (Value.bool (decide ((↑k : Int) < (↑d.m : Int)))))), ((138 : Nat), AV.p true (PV.v (Value.bool false)))] [((3 : Nat), Ob.box [AV.p true (PV.sl false (1 : Nat) d.n (TR d.f)), AV.p true (PV.sl false (1 : Nat) d.m (RR d.w d.h))]), ((6 : Nat), Ob.box [AV.p true (PV.sl false (1 : Nat) d.n (TR d.f)), AV.p true (PV.sl false (1 : Nat) d.m (RR (wL S) (hL S)))])])))))))) (VC.split dn (VC.need ((0 : Int) ≤ (↑k : Int) ∧ (↑k : Int).toNat < d.m) (VC.need ((0 : Int) ≤ c ∧ c.toNat < wL S (↑k : Int).toNat) (VC.need ((0 : Int) ≤ IntKind.i64.wrap ((↑k : Int) - (1 : Int)) ∧ (IntKind.i64.wrap ((↑k : Int) - (1 : Int))).toNat < d.m) (VC.need ((0 : Int) ≤ c ∧ c.toNat < wL S (IntKind.i64.wrap ((↑k : Int) - (1 : Int))).toNat) (VC.split (decide (hL S (IntKind.i64.wrap ((↑k : Int) - (1 : Int))).toNat c.toNat < hL S (↑k : Int).toNat c.toNat)) (VC.doneP (AV.p true (PV.v (Value.bool false)))) (VC.lend (I k) (St.mk [((2 : Nat), AV.p true (PV.v (Value.bool false))), ((3 : Nat), AV.adr (3 : Nat) (0 : Nat)), ((4 : Nat), AV.p true (PV.v (Value.string s))), ((5 : Nat), AV.p true (PV.v (Value.bool dn))), ((6 : Nat), AV.adr (6 : Nat) (0 : Nat)), ((10 : Nat), AV.p true (PV.v (Value.int IntKind.i64 c))), ((11 : Nat), AV.p true (PV.v (Value.int IntKind.i64 (IntKind.i64.wrap ((↑k : Int) + (1 : Int)))))), ((66 : Nat), AV.p true (PV.v (Value.bool (decide ((↑k : Int) < (↑d.m : Int)))))), ((138 : Nat), AV.p true (PV.v (Value.bool (decide (hL S (IntKind.i64.wrap ((↑k : Int) - (1 : Int))).toNat c.toNat < hL S (↑k : Int).toNat c.toNat)))))] [((3 : Nat), Ob.box [AV.p true (PV.sl false (1 : Nat) d.n (TR d.f)), AV.p true (PV.sl false (1 : Nat) d.m (RR d.w d.h))]), ((6 : Nat), Ob.box [AV.p true (PV.sl false (1 : Nat) d.n (TR d.f)), AV.p true (PV.sl false (1 : Nat) d.m (RR (wL S) (hL S)))])]))))))) (VC.lend (I k) (St.mk [((2 : Nat), AV.p true (PV.v (Value.bool false))), ((3 : Nat), AV.adr (3 : Nat) (0 : Nat)), ((4 : Nat), AV.p true (PV.v (Value.string s))), ((5 : Nat), AV.p true (PV.v (Value.bool dn))), ((6 : Nat), AV.adr (6 : Nat) (0 : Nat)), ((10 : Nat), AV.p true (PV.v (Value.int IntKind.i64 c))), ((11 : Nat), AV.p true (PV.v (Value.int IntKind.i64 (IntKind.i64.wrap ((↑k : Int) + (1 : Int)))))), ((66 : Nat), AV.p true (PV.v (Value.bool (decide ((↑k : Int) < (↑d.m : Int)))))), ((138 : Nat), AV.p true (PV.v (Value.bool false)))] [((3 : Nat), Ob.box [AV.p true (PV.sl false (1 : Nat) d.n (TR d.f)), AV.p true (PV.sl false (1 : Nat) d.m (RR d.w d.h))]), ((6 : Nat), Ob.box [AV.p true (PV.sl false (1 : Nat) d.n (TR d.f)), AV.p true (PV.sl false (1 : Nat) d.m (RR (wL S) (hL S)))])]))))))))) (VC.loop ir10_L2 [Item.bend (2 : Nat), Item.ir ir10_T3] (St.mk [((2 : Nat), AV.p true (PV.v (Value.bool false))), ((3 : Nat), AV.adr (3 : Nat) (0 : Nat)), ((4 : Nat), AV.p true (PV.v (Value.string s))), ((5 : Nat), AV.p true (PV.v (Value.bool dn))), ((6 : Nat), AV.adr (6 : Nat) (0 : Nat)), ((10 : Nat), AV.p true (PV.v (Value.int IntKind.i64 c))), ((11 : Nat), AV.p true (PV.v (Value.int IntKind.i64 (↑k : Int)))), ((66 : Nat), AV.p true (PV.v (Value.bool (decide ((↑k : Int) < (↑d.m : Int)))))), ((12 : Nat), AV.adr (12 : Nat) (0 : Nat)), ((13 : Nat), AV.p true (PV.v (Value.int IntKind.i64 (IntKind.i64.wrap ((↑d.m : Int) - (1 : Int))))))] [((3 : Nat), Ob.box [AV.p true (PV.sl false (1 : Nat) d.n (TR d.f)), AV.p true (PV.sl false (1 : Nat) d.m (RR d.w d.h))]), ((6 : Nat), Ob.box [AV.p true (PV.sl false (1 : Nat) d.n (TR d.f)), AV.p true (PV.sl false (1 : Nat) d.m (RR (wL S) (hL S)))]), ((12 : Nat), Ob.box [AV.p true (PV.sl false (1 : Nat) d.n (TR d.f)), AV.p true (PV.v (Value.slice none (0 : Nat) (0 : Nat)))])])) := by intros; kernel_rfl
def st_lO2 (d : DT) (s : ByteArray) (dn : Bool) (S : List (List Int)) (i : Nat) : St := ⟨[(2, AB false), (3, .adr 3 0), (4, AT s), (5, AB dn), (6, .adr 6 0), (12, .adr 12 0), (13, AI ((d.m : Int) - 1 - i))], [(3, .box [.p true (.sl false 1 d.n (TR d.f)), .p true (.sl false 1 d.m (RR d.w d.h))]), (6, .box [.p true (.sl false 1 d.n (TR d.f)), .p true (.sl false 1 d.m (RR (wL S) (hL S)))]), (12, .box [.p true (.sl false 1 d.n (TR d.f)), .own 7]), (7, .row .f false 1 i (RR (fun a => d.w (d.m - 1 - a)) fun a => d.h (d.m - 1 - a)) [])]⟩
def r_lO2 (d : DT) (s : ByteArray) (dn : Bool) (S : List (List Int)) (I : Nat → St → Prop) (i : Nat) := (G0, res10, ([] : List (Nat × Ob)), [Item.ir ir10_L2, .lend (I i), Item.bend 2, Item.ir ir10_T3], st_lO2 d s dn S i)
theorem evr_lO2 : ∀ (d : DT) (s : ByteArray) (dn : Bool) (S : List (List Int)) (I : Nat → St → Prop) (i : Nat), ev G0 res10 [] (3000 : Nat) (Or.nil.split (Or.call [] (orR d.n d.f d.m (wL S) (hL S) s) (orH d.n d.f d.m (wL S) (hL S) s dn) (Or.call [] (orR d.n d.f i (fun (a : Nat) => d.w (d.m - (1 : Nat) - a)) (fun (a : Nat) => d.h (d.m - (1 : Nat) - a)) s) (orH d.n d.f i (fun (a : Nat) => d.w (d.m - (1 : Nat) - a)) (fun (a : Nat) => d.h (d.m - (1 : Nat) - a)) s dn) (Or.call [] (AB (bagB d.n d.f d.m (wL S) (hL S) d.n d.f d.m d.w d.h)) [] ((Or.call [] (AB (sameT (orN d.n d.f d.m (wL S) (hL S) s) d.f d.n d.f && sameR (orM d.n d.f d.m (wL S) (hL S) s) (wL (orS d.n d.f d.m (wL S) (hL S) s dn)) (hL (orS d.n d.f d.m (wL S) (hL S) s dn)) d.m (wL S) (hL S))) [] ((Or.call [] (AB (sameT (orN d.n d.f i (fun (a : Nat) => d.w (d.m - (1 : Nat) - a)) (fun (a : Nat) => d.h (d.m - (1 : Nat) - a)) s) d.f d.n d.f && sameR (orM d.n d.f i (fun (a : Nat) => d.w (d.m - (1 : Nat) - a)) (fun (a : Nat) => d.h (d.m - (1 : Nat) - a)) s) (wL (orS d.n d.f i (fun (a : Nat) => d.w (d.m - (1 : Nat) - a)) (fun (a : Nat) => d.h (d.m - (1 : Nat) - a)) s dn)) (hL (orS d.n d.f i (fun (a : Nat) => d.w (d.m - (1 : Nat) - a)) (fun (a : Nat) => d.h (d.m - (1 : Nat) - a)) s dn)) d.m (wL S) (hL S))) [] Or.nil.lit).lit.lit.split Or.nil.lit.lit.lit).lit).lit.lit.split Or.nil.lit.lit.lit.lit.lit.lit.lit))))) [Item.ir ir10_L2, Item.lend (I i), Item.bend (2 : Nat), Item.ir ir10_T3] (st_lO2 d s dn S i) = VC.split (decide ((0 : Int) ≤ (↑d.m : Int) - (1 : Int) - (↑i : Int))) (VC.need ((0 : Int) ≤ (↑d.m : Int) - (1 : Int) - (↑i : Int) ∧ ((↑d.m : Int) - (1 : Int) - (↑i : Int)).toNat < d.m) (VC.need (((i + (1 : Nat)) * (24 : Nat) ≤ (140737488355328 : Nat) ∧ (↑(i + (1 : Nat)) : Int) ≤ (9223372036854775807 : Int)) ∧ allOne (1 : Nat) (1 : Nat) (setG [((0 : Nat), (0 : Nat), PV.sl false (1 : Nat) (d.w ((↑d.m : Int) - (1 : Int) - (↑i : Int)).toNat) fun (j x : Nat) => PI (d.h ((↑d.m : Int) - (1 : Int) - (↑i : Int)).toNat j))] fun (x j : Nat) => PV.v ([Value.slice none (0 : Nat) (0 : Nat)].getD j undef))) (VC.lend (I i) (St.mk [((2 : Nat), AV.p true (PV.v (Value.bool false))), ((3 : Nat), AV.adr (3 : Nat) (0 : Nat)), ((4 : Nat), AV.p true (PV.v (Value.string s))), ((5 : Nat), AV.p true (PV.v (Value.bool dn))), ((6 : Nat), AV.adr (6 : Nat) (0 : Nat)), ((12 : Nat), AV.adr (12 : Nat) (0 : Nat)), ((13 : Nat), AV.p true (PV.v (Value.int IntKind.i64 (IntKind.i64.wrap ((↑d.m : Int) - (1 : Int) - (↑i : Int) - (1 : Int)))))), ((147 : Nat), AV.p true (PV.v (Value.bool (decide ((0 : Int) ≤ (↑d.m : Int) - (1 : Int) - (↑i : Int))))))] [((3 : Nat), Ob.box [AV.p true (PV.sl false (1 : Nat) d.n (TR d.f)), AV.p true (PV.sl false (1 : Nat) d.m (RR d.w d.h))]), ((6 : Nat), Ob.box [AV.p true (PV.sl false (1 : Nat) d.n (TR d.f)), AV.p true (PV.sl false (1 : Nat) d.m (RR (wL S) (hL S)))]), ((12 : Nat), Ob.box [AV.p true (PV.sl false (1 : Nat) d.n (TR d.f)), AV.own (158 : Nat)]), ((158 : Nat), Ob.row Mode.f false (1 : Nat) (i + (1 : Nat)) (fun (a b : Nat) => if a < i then RR (fun (a_1 : Nat) => d.w (d.m - (1 : Nat) - a_1)) (fun (a_1 : Nat) => d.h (d.m - (1 : Nat) - a_1)) a b else setG [((0 : Nat), (0 : Nat), PV.sl false (1 : Nat) (d.w ((↑d.m : Int) - (1 : Int) - (↑i : Int)).toNat) fun (j x : Nat) => PI (d.h ((↑d.m : Int) - (1 : Int) - (↑i : Int)).toNat j))] (fun (x j : Nat) => PV.v ([Value.slice none (0 : Nat) (0 : Nat)].getD j undef)) (a - i) b) [])])))) (VC.call (44 : Nat) [AV.ag [AV.p false (PV.sl false (1 : Nat) d.n (TR d.f)), AV.p false (PV.sl false (1 : Nat) d.m (RR (wL S) (hL S)))], AV.p true (PV.v (Value.string s)), AV.p true (PV.v (Value.bool dn))] [] (orR d.n d.f d.m (wL S) (hL S) s) (orH d.n d.f d.m (wL S) (hL S) s dn) (VC.call (44 : Nat) [AV.ag [AV.p false (PV.sl false (1 : Nat) d.n (TR d.f)), AV.p false (PV.sl false (1 : Nat) i (RR (fun (a : Nat) => d.w (d.m - (1 : Nat) - a)) fun (a : Nat) => d.h (d.m - (1 : Nat) - a)))], AV.p true (PV.v (Value.string s)), AV.p true (PV.v (Value.bool dn))] [] (orR d.n d.f i (fun (a : Nat) => d.w (d.m - (1 : Nat) - a)) (fun (a : Nat) => d.h (d.m - (1 : Nat) - a)) s) (orH d.n d.f i (fun (a : Nat) => d.w (d.m - (1 : Nat) - a)) (fun (a : Nat) => d.h (d.m - (1 : Nat) - a)) s dn) (VC.call (34 : Nat) [AV.ag [AV.p false (PV.sl false (1 : Nat) d.n (TR d.f)), AV.p false (PV.sl false (1 : Nat) d.m (RR (wL S) (hL S)))], AV.ag [AV.p false (PV.sl false (1 : Nat) d.n (TR d.f)), AV.p false (PV.sl false (1 : Nat) d.m (RR d.w d.h))]] [] (AB (bagB d.n d.f d.m (wL S) (hL S) d.n d.f d.m d.w d.h)) [] (VC.split (bagB d.n d.f d.m (wL S) (hL S) d.n d.f d.m d.w d.h) (VC.call (31 : Nat) [AV.ag [AV.p false (PV.sl false (1 : Nat) (orN d.n d.f d.m (wL S) (hL S) s) (TR d.f)), AV.p false (PV.sl false (1 : Nat) (orM d.n d.f d.m (wL S) (hL S) s) (RR (wL (orS d.n d.f d.m (wL S) (hL S) s dn)) (hL (orS d.n d.f d.m (wL S) (hL S) s dn))))], AV.ag [AV.p false (PV.sl false (1 : Nat) d.n (TR d.f)), AV.p false (PV.sl false (1 : Nat) d.m (RR (wL S) (hL S)))]] [] (AB (sameT (orN d.n d.f d.m (wL S) (hL S) s) d.f d.n d.f && sameR (orM d.n d.f d.m (wL S) (hL S) s) (wL (orS d.n d.f d.m (wL S) (hL S) s dn)) (hL (orS d.n d.f d.m (wL S) (hL S) s dn)) d.m (wL S) (hL S))) [] (VC.split (sameT (orN d.n d.f d.m (wL S) (hL S) s) d.f d.n d.f && sameR (orM d.n d.f d.m (wL S) (hL S) s) (wL (orS d.n d.f d.m (wL S) (hL S) s dn)) (hL (orS d.n d.f d.m (wL S) (hL S) s dn)) d.m (wL S) (hL S)) (VC.call (31 : Nat) [AV.ag [AV.p false (PV.sl false (1 : Nat) (orN d.n d.f i (fun (a : Nat) => d.w (d.m - (1 : Nat) - a)) (fun (a : Nat) => d.h (d.m - (1 : Nat) - a)) s) (TR d.f)), AV.p false (PV.sl false (1 : Nat) (orM d.n d.f i (fun (a : Nat) => d.w (d.m - (1 : Nat) - a)) (fun (a : Nat) => d.h (d.m - (1 : Nat) - a)) s) (RR (wL (orS d.n d.f i (fun (a : Nat) => d.w (d.m - (1 : Nat) - a)) (fun (a : Nat) => d.h (d.m - (1 : Nat) - a)) s dn)) (hL (orS d.n d.f i (fun (a : Nat) => d.w (d.m - (1 : Nat) - a)) (fun (a : Nat) => d.h (d.m - (1 : Nat) - a)) s dn))))], AV.ag [AV.p false (PV.sl false (1 : Nat) d.n (TR d.f)), AV.p false (PV.sl false (1 : Nat) d.m (RR (wL S) (hL S)))]] [] (AB (sameT (orN d.n d.f i (fun (a : Nat) => d.w (d.m - (1 : Nat) - a)) (fun (a : Nat) => d.h (d.m - (1 : Nat) - a)) s) d.f d.n d.f && sameR (orM d.n d.f i (fun (a : Nat) => d.w (d.m - (1 : Nat) - a)) (fun (a : Nat) => d.h (d.m - (1 : Nat) - a)) s) (wL (orS d.n d.f i (fun (a : Nat) => d.w (d.m - (1 : Nat) - a)) (fun (a : Nat) => d.h (d.m - (1 : Nat) - a)) s dn)) (hL (orS d.n d.f i (fun (a : Nat) => d.w (d.m - (1 : Nat) - a)) (fun (a : Nat) => d.h (d.m - (1 : Nat) - a)) s dn)) d.m (wL S) (hL S))) [] (VC.doneP (AV.p true (PV.v (Value.bool (sameT (orN d.n d.f i (fun (a : Nat) => d.w (d.m - (1 : Nat) - a)) (fun (a : Nat) => d.h (d.m - (1 : Nat) - a)) s) d.f d.n d.f && sameR (orM d.n d.f i (fun (a : Nat) => d.w (d.m - (1 : Nat) - a)) (fun (a : Nat) => d.h (d.m - (1 : Nat) - a)) s) (wL (orS d.n d.f i (fun (a : Nat) => d.w (d.m - (1 : Nat) - a)) (fun (a : Nat) => d.h (d.m - (1 : Nat) - a)) s dn)) (hL (orS d.n d.f i (fun (a : Nat) => d.w (d.m - (1 : Nat) - a)) (fun (a : Nat) => d.h (d.m - (1 : Nat) - a)) s dn)) d.m (wL S) (hL S))))))) (VC.doneP (AV.p true (PV.v (Value.bool false)))))) (VC.doneP (AV.p true (PV.v (Value.bool false)))))))) := by intros; kernel_rfl
theorem c_lOR (nn : Bool) (n : Nat) (f : Nat → Int) (hb : Bytes f) : PRet Tryd.prog G0 10 [.p false (.sl nn 1 n (PB f))] (AB true) := by
  refine PRet.by chk10 (ev_lOR nn n f) ?_
  simp only [VC.holds_split, VC.holds_need, VC.holds_doneP, VC.holds_done, VC.holds_either, VC.holds_call, VC.holds_callE, VC.holds_lend, VC.holds_stop, VC.holds_fail, decide_eq_true_eq, decide_eq_false_iff_not]
  refine ⟨fun h => by simp, fun h => ⟨c_dOR nn n f hb, fun y hy => ?_⟩⟩
  obtain ⟨d, s, dn⟩ := y
  simp only [] at hy ⊢
  have ok := hy.ok
  have im := c_imOR d.n d.f d.m d.w d.h s dn ok
  have sp := c_spOR d.n d.f d.m d.w d.h s dn ok
  have co := c_imCO d.n d.f d.m d.w d.h s ok
  cases ht : orB d.n d.f d.m d.w d.h s with
  | false =>
    simp only [orR, orH, orF, (or_no ht).1, (or_no ht).2, ht] at im sp ⊢
    refine ⟨im, sp, c_sTb _ _ _ _ _ _ _ _ _ _ (by omega) (by omega) (fun i hi => absurd hi (Nat.not_lt_zero _)), fun e => ?_, fun _ => ⟨fun e => ?_, fun _ => ⟨fun _ => ⟨fun _ => ⟨c_alive, by simp⟩, fun e => ?_⟩, fun e => ?_⟩⟩⟩
    · simp [sameT_rfl, sameR_rfl] at e
    · simp at e
    · simp at e
    · simp at e
  | true =>
    have ht' := ht
    simp only [orB, Bool.and_eq_true, decide_eq_true_eq] at ht'
    obtain ⟨tb, c0⟩ := ht'
    have c1 := colT_lt d.f s d.n
    have ec : colC d.n d.f d.m d.w d.h s = colT d.f s d.n := by simp [colC, tb]
    have es : orS d.n d.f d.m d.w d.h s dn = srtO (colT d.f s d.n).toNat dn d.m d.w d.h := rfl
    simp only [orR, orH, orF, (or_yes ht).1, (or_yes ht).2, ht, es, ec] at im sp co ⊢
    have hp : (srtO (colT d.f s d.n).toNat dn d.m d.w d.h).Perm (tabL d.m d.w d.h) := srtL_perm' _ _
    have hsl := srtO_len (colT d.f s d.n).toNat dn d.m d.w d.h
    have hs : (srtO (colT d.f s d.n).toNat dn d.m d.w d.h).Pairwise fun x y => ltO (colT d.f s d.n).toNat dn y x = false := srt_sorted (ltO_swo _ _) _
    have ag := srtO_again (colT d.f s d.n).toNat dn d.m d.w d.h
    have rv : srtO (colT d.f s d.n).toNat dn d.m (fun a => d.w (d.m - 1 - a)) (fun a => d.h (d.m - 1 - a)) = srtO (colT d.f s d.n).toNat dn d.m d.w d.h := srtO_congr (tabL_rev _ _ _)
    have tr : tableB d.n d.f d.m (fun a => d.w (d.m - 1 - a)) (fun a => d.h (d.m - 1 - a)) = true := table_perm (tabL_rev _ _ _) tb
    have tS := table_srt hp tb
    have bg := bag_perm hp tb
    have hw := perm_w hp ok.hw
    have hwn := tab_w tS
    have hm := hy.hm
    generalize hc : colT d.f s d.n = c at *
    generalize srtO c.toNat dn d.m d.w d.h = S at *
    obtain ⟨c, rfl⟩ : ∃ c' : Nat, c = c' := ⟨c.toNat, by omega⟩
    simp only [Int.toNat_natCast] at hs ag rv
    refine ⟨im, sp, c_sTb _ _ _ _ _ _ _ _ _ _ ok.hn ok.hm hw, fun e => ?_, fun _ => ⟨fun e => ?_, fun _ => ⟨fun e => ?_, fun _ => ⟨co, ?_⟩⟩⟩⟩
    · simp [sameT_rfl, sameR_rfl] at e
    · simp at e
    · simp at e
    · refine loop_by (st_lO1 d s dn S c) (fun k => 1 ≤ k ∧ k ≤ d.m + 1) (fun k => d.m + 1 - k) 1 [(2023, .f), (2031, .f)] [] [] (by omega) ?_ (evr_lO1 d s dn S c) fun k hk => ?_
      · simp [st_lO1, hbs, St.lowers, St.lower, stLe, leEnv, leObs, obLe, injB, pinC, AV.leC, AV.leCs, PV.leC, PV.Le_v, St.get, St.obj, look, rho, isNew, keptC, renH, Mode.ok, Mode.isZ, PV.isVal, PV.isNilSl, List.all_nil, List.all_cons, List.any_nil, List.any_cons, List.map_nil, List.map_cons, PV.Le_self, Mode.low, St.setOb, ins]
      · have ek : IntKind.i64.wrap ((k : Int) + 1) = ((k + 1 : Nat) : Int) := wrap_in (by omega) (by omega)
        have e1 : IntKind.i64.wrap ((k : Int) - 1) = ((k - 1 : Nat) : Int) := (wrap_in (by omega) (by omega)).trans (by omega)
        simp only [VC.holds_split, VC.holds_need, VC.holds_doneP, VC.holds_done, VC.holds_either, VC.holds_call, VC.holds_callE, VC.holds_lend, VC.holds_stop, VC.holds_fail, decide_eq_true_eq, decide_eq_false_iff_not, e1, Int.toNat_natCast]
        refine ⟨fun h0 => ?_, fun h0 => ?_⟩
        · have hkm : k < d.m := by simpa using h0
          have w1 := hwn k hkm
          have w2 := hwn (k - 1) (by omega)
          have ks := sorted_key hs (i := k - 1) (j := k) (by omega) (by omega)
          have g1 : hL S k c = (S.getD k []).getD c 0 := rfl
          have g2 : hL S (k - 1) c = (S.getD (k - 1) []).getD c 0 := rfl
          simp only [w1, w2]
          refine ⟨fun e => ?_, fun _ => ⟨⟨by omega, by omega⟩, fun e => ?_, fun _ => ⟨⟨by omega, by omega⟩, fun e => ?_, fun _ => ?_⟩⟩⟩
          · omega
          · omega
          · omega
          · cases dn with
            | false =>
              have k1 : hL S (k - 1) c ≤ hL S k c := ks
              refine ⟨fun _ => ⟨⟨by omega, by omega⟩, ⟨by omega, by omega⟩, ⟨by omega, by omega⟩, ⟨by omega, by omega⟩, fun e => by omega, fun _ => ⟨fun e => (by cases e), fun _ => Again.mk (k + 1) [] [] [] (by omega) (by omega) ?_⟩⟩, fun e => (by cases e)⟩
              simp [st_lO1, hbs, St.lowers, St.lower, stLe, leEnv, leObs, obLe, injB, pinC, AV.leC, AV.leCs, PV.leC, PV.Le_v, St.get, St.obj, look, rho, isNew, keptC, renH, Mode.ok, Mode.isZ, PV.isVal, PV.isNilSl, List.all_nil, List.all_cons, List.any_nil, List.any_cons, List.map_nil, List.map_cons, PV.Le_self, ek]
            | true =>
              have k1 : - hL S (k - 1) c ≤ - hL S k c := ks
              refine ⟨fun e => (by cases e), fun _ => ⟨fun _ => ⟨⟨by omega, by omega⟩, ⟨by omega, by omega⟩, ⟨by omega, by omega⟩, ⟨by omega, by omega⟩, fun e => by omega, fun _ => Again.mk (k + 1) [] [] [] (by omega) (by omega) ?_⟩, fun e => (by cases e)⟩⟩
              simp [st_lO1, hbs, St.lowers, St.lower, stLe, leEnv, leObs, obLe, injB, pinC, AV.leC, AV.leCs, PV.leC, PV.Le_v, St.get, St.obj, look, rho, isNew, keptC, renH, Mode.ok, Mode.isZ, PV.isVal, PV.isNilSl, List.all_nil, List.all_cons, List.any_nil, List.any_cons, List.map_nil, List.map_cons, PV.Le_self, ek]
        · have e0 : IntKind.i64.wrap ((d.m : Int) - 1) = (d.m : Int) - 1 := wrap_in (by omega) (by omega)
          simp only [e0]
          refine loop_by (st_lO2 d s dn S) (fun i => i ≤ d.m) (fun i => d.m - i) 0 [] [] [7] (Nat.zero_le _) ?_ (evr_lO2 d s dn S) fun i hi => ?_
          · simp [st_lO2, hbs, St.lowers, St.lower, stLe, leEnv, leObs, obLe, injB, pinC, AV.leC, AV.leCs, PV.leC, PV.Le_v, St.get, St.obj, look, rho, isNew, keptC, renH, Mode.ok, Mode.isZ, PV.isVal, PV.isNilSl, List.all_nil, List.all_cons, List.any_nil, List.any_cons, List.map_nil, List.map_cons, PV.Le_self]
          · have ei : IntKind.i64.wrap ((d.m : Int) - 1 - i - 1) = (d.m : Int) - 1 - ((i + 1 : Nat) : Int) := (wrap_in (by omega) (by omega)).trans (by omega)
            simp only [VC.holds_split, VC.holds_need, VC.holds_doneP, VC.holds_done, VC.holds_either, VC.holds_call, VC.holds_callE, VC.holds_lend, VC.holds_stop, VC.holds_fail, decide_eq_true_eq, decide_eq_false_iff_not]
            refine ⟨fun h1 => ?_, fun h1 => ?_⟩
            · have him : i < d.m := by have : (0 : Int) ≤ d.m - 1 - i := by simpa using h1
                                       omega
              have et : ((d.m : Int) - 1 - i).toNat = d.m - 1 - i := by omega
              simp only [et]
              refine ⟨⟨by omega, by omega⟩, ⟨⟨by omega, by omega⟩, ?_⟩, Again.mk (i + 1) [] [(7, 158)] [] (by omega) (by omega) ?_⟩
              · intro a b ha hb'
                obtain rfl : a = 0 := by omega
                obtain rfl : b = 0 := by omega
                rfl
              · simp [st_lO2, hbs, St.lowers, St.lower, stLe, leEnv, leObs, obLe, injB, pinC, AV.leC, AV.leCs, PV.leC, PV.Le_v, St.get, St.obj, look, rho, isNew, keptC, renH, Mode.ok, Mode.isZ, PV.isVal, PV.isNilSl, List.all_nil, List.all_cons, List.any_nil, List.any_cons, List.map_nil, List.map_cons, PV.Le_self, ei]
                intro a ha
                by_cases c1 : a < i
                · simp [c1]; exact RR_le rfl fun j hj => rfl
                · obtain rfl : a = i := by omega
                  simp [setG, cellSet]
                  exact sl_le rfl fun j hj => .refl _
            · have him : i = d.m := by have : ¬ (0 : Int) ≤ d.m - 1 - i := by simpa using h1
                                       omega
              subst him
              have o1 : orB d.n d.f d.m (wL S) (hL S) s = true := by simp [orB, tS, hc]
              have o2 : orB d.n d.f d.m (fun a => d.w (d.m - 1 - a)) (fun a => d.h (d.m - 1 - a)) s = true := by simp [orB, tr, hc]
              have s1 : orS d.n d.f d.m (wL S) (hL S) s dn = S := by simp only [orS, hc, Int.toNat_natCast]; exact ag
              have s2 : orS d.n d.f d.m (fun a => d.w (d.m - 1 - a)) (fun a => d.h (d.m - 1 - a)) s dn = S := by simp only [orS, hc, Int.toNat_natCast]; exact rv
              have okS : TaOk d.n d.f d.m (wL S) := ⟨ok.hn, ok.hf, ok.hm, hw⟩
              have okT : TaOk d.n d.f d.m (fun a => d.w (d.m - 1 - a)) := ⟨ok.hn, ok.hf, ok.hm, fun i hi => ok.hw _ (by omega)⟩
              have q1 := c_imOR d.n d.f d.m (wL S) (hL S) s dn okS
              have q2 := c_imOR d.n d.f d.m (fun a => d.w (d.m - 1 - a)) (fun a => d.h (d.m - 1 - a)) s dn okT
              have q3 := c_imSB d.n d.f d.m (wL S) (hL S) d.n d.f d.m d.w d.h okS ok
              have st := c_sTb d.n d.f d.m (wL S) (hL S) d.n d.f d.m (wL S) (hL S) ok.hn ok.hm hw
              rw [bg] at q3
              simp only [orR, orH, (or_yes o1).1, (or_yes o1).2, (or_yes o2).1, (or_yes o2).2, o1, o2, s1, s2, bg] at q1 q2 ⊢
              refine ⟨q1, q2, q3, fun _ => ⟨st, fun _ => ⟨st, ?_⟩, fun e => ?_⟩, fun e => (by cases e)⟩
              · simp [sameT_rfl, sameR_rfl]
              · simp [sameT_rfl, sameR_rfl] at e
theorem law_FnOrderRows (xs : List AV) (h : Args Tryd.prog Tryd.f10.params.toList xs) : PRet Tryd.prog G0 10 xs (AB true) := by
  have hp : Tryd.f10.params.toList = [22] := by kernel_rfl
  rw [hp] at h
  obtain ⟨nn, n, f, c, cs, hb, h2, rfl, hle⟩ := args_bytes h
  cases h2
  exact (c_lOR nn n f hb).args ⟨hle, trivial⟩
end Go.Gw
