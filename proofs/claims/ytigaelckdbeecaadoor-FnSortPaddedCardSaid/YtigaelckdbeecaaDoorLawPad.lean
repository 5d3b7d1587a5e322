/- Sorted padded tables: the law FnSortPadded; with no condition. -/
import Derived.Test.YtigaelckdbeecaaDoorPadF
import Derived.Test.YtigaelckdbeecaaDoorDrawPad
import Derived.Test.YtigaelckdbeecaaDoorLawSort
import Derived.KernelRfl
namespace Go.Gw
open Go Go.Proofs
set_option linter.unusedSimpArgs false
set_option linter.unusedVariables false
set_option maxRecDepth 100000
def ir4 : Ir :=
  (.seq
  (.reg [] [o 2 (.alloc [(.slice none 0 0), (.slice none 0 0), (.slice none 0 0)]),
    o 3 (.mov (.const (.string ⟨#[]⟩))),
    o 4 (.mov (cb false))])
  (.seq
  (.reg [7, 8] [o 7 (.mov (tt 0)),
    o 8 (.call 18 [(tt 7)]),
    o 5 (.mov (tt 8))])
  (.seq
  (.reg [9, 10] [o 9 (.mov (tt 5)),
    o 10 (.call 19 [(tt 9), (ci 0), (ci 20), (ci 9)]),
    o 6 (.alloc [(.slice none 0 0), (.slice none 0 0), (.slice none 0 0)]),
    on (.store 3 (tt 6) (tt 10))])
  (.seq
  (.dreg [11, 12, 13, 14, 15, 16, 17, 18, 19, 20, 21, 22] [0, 0, 0, 0, 8, 28, 60, 126, 254, 0, 536, 1560, 1561, 6143, 16383] [(0, 1011), (0, 2011), (0, 3011), (1, 12), (2, 13), (4, 1015), (4, 2015), (4, 3015), (4, 4015), (4, 5015), (4, 6015), (4, 7015), (4, 8015), (6, 1017), (8, 1019), (10, 1021), (10, 2021), (10, 3021), (10, 4021), (10, 5021), (10, 6021), (10, 7021), (10, 8021)] [o 11 (.load true 3 (tt 6)),
    o 12 (.mkSl 1 4 [(.string ⟨#[]⟩)] [(0, (.const (.string ⟨#[]⟩))), (1, (.const (.string ⟨#[97]⟩))), (2, (.const (.string ⟨#[98]⟩))), (3, (.const (.string ⟨#[120]⟩)))]),
    o 13 (.mkSl 1 6 [(.int .i64 0)] [(0, (ci 0)), (1, (ci 1)), (2, (ci 1)), (3, (ci 1)), (4, (ci 2)), (5, (ci 3))]),
    o 14 (.mov (tt 5)),
    o 15 (.call 20 [(tt 14), (ci 6)]),
    o 16 (.idx 1 (tt 13) (tt 15)),
    o 17 (.load false 1 (tt 16)),
    o 18 (.idx 1 (tt 12) (tt 17)),
    o 19 (.load false 1 (tt 18)),
    o 20 (.mov (tt 5)),
    o 21 (.call 20 [(tt 20), (ci 2)]),
    o 22 (.bin .eql (tt 21) (ci 0)),
    on (.store 3 (tt 2) (tt 11)),
    o 3 (.mov (tt 19)),
    o 4 (.mov (tt 22))])
  .ret))))
def keep4 : List Nat := [0, 2, 3, 4, 5, 6]
def res4 : List RI := [.cell true 3 2, .tmp 3, .tmp 4]
theorem chk4 : chk Tryd.prog 4 1 keep4 = some (ir4, res4) := by kernel_rfl
def ir3_L1 : Ir :=
  (.seq
  (.seq
  (.reg [72, 73, 74, 75] [o 72 (.mov (tt 12)),
    o 73 (.fadr 2 (tt 6)),
    o 74 (.load false 1 (tt 73)),
    o 75 (.len (tt 74)),
    o 76 (.bin .lss (tt 72) (tt 75))])
  (.cond (tt 76)
   .skip
   (.exit 0)))
  (.seq
  (.block 1
   (.seq
   (.reg [79, 80, 81, 82, 83, 84, 85, 86, 87, 88, 89, 90, 91] [o 79 (.fadr 2 (tt 6)),
     o 80 (.load false 1 (tt 79)),
     o 81 (.mov (tt 12)),
     o 82 (.idx 1 (tt 80) (tt 81)),
     o 83 (.load false 1 (tt 82)),
     o 84 (.mov (tt 83)),
     og 85 84 true (.fadr 2 (tt 6)),
     og 86 84 true (.load false 1 (tt 85)),
     og 87 84 true (.mov (tt 12)),
     og 88 84 true (.bin .sub (tt 87) (ci 1)),
     og 89 84 true (.idx 1 (tt 86) (tt 88)),
     og 90 84 true (.load false 1 (tt 89)),
     og 91 84 true (.un .not (tt 90)),
     o 92 (.pick (tt 84) (tt 91) (cb false))])
   (.cond (tt 92)
    (.seq
    (.reg [] [o 2 (.mov (cb false))])
    .ret)
    .skip)))
  (.reg [77, 78] [o 77 (.mov (tt 12)),
    o 78 (.bin .add (tt 77) (ci 1)),
    o 12 (.mov (tt 78))])))
def ir3_T2 : Ir :=
  (.seq
  (.reg [94, 95, 93, 96, 97] [o 94 (.load true 3 (tt 3)),
    o 95 (.call 10 [(tt 94)]),
    o 93 (.mov (tt 95)),
    o 96 (.ext (tt 93) 0),
    o 97 (.ext (tt 93) 1),
    o 13 (.alloc [(.slice none 0 0), (.slice none 0 0)]),
    on (.store 2 (tt 13) (tt 96)),
    o 14 (.mov (tt 97))])
  (.seq
  (.reg [99, 100, 98, 101, 102] [o 99 (.load true 3 (tt 6)),
    o 100 (.call 10 [(tt 99)]),
    o 98 (.mov (tt 100)),
    o 101 (.ext (tt 98) 0),
    o 102 (.ext (tt 98) 1),
    o 15 (.alloc [(.slice none 0 0), (.slice none 0 0)]),
    on (.store 2 (tt 15) (tt 101)),
    o 16 (.mov (tt 102))])
  (.seq
  (.seq
  (.reg [103, 104] [o 103 (.mov (tt 14)),
    o 104 (.mov (tt 16)),
    o 105 (.binB .neq (tt 103) (tt 104))])
  (.cond (tt 105)
   (.seq
   (.reg [] [o 2 (.mov (cb false))])
   .ret)
   .skip))
  (.seq
  (.reg [106, 107] [o 106 (.load true 2 (tt 13)),
    o 107 (.call 11 [(tt 106)]),
    o 17 (.alloc [(.slice none 0 0), (.slice none 0 0)]),
    on (.store 2 (tt 17) (tt 107))])
  (.seq
  (.seq
  (.reg [108] [o 108 (.mov (tt 4)),
    o 109 (.bin .neq (tt 108) (.const (.string ⟨#[]⟩)))])
  (.cond (tt 109)
   (.reg [111, 112, 113, 114, 110, 115, 116] [o 111 (.load true 2 (tt 13)),
     o 112 (.mov (tt 4)),
     o 113 (.mov (tt 5)),
     o 114 (.call 12 [(tt 111), (tt 112), (tt 113)]),
     o 110 (.mov (tt 114)),
     o 115 (.ext (tt 110) 0),
     o 116 (.ext (tt 110) 1),
     on (.store 2 (tt 17) (tt 115))])
   .skip))
  (.seq
  (.dreg [117, 118, 119, 120, 121, 122, 123, 124, 125, 126, 127, 128, 129, 130, 131, 132, 133, 134, 135, 136, 137, 138, 139, 140, 141, 142, 143, 144, 145, 146, 147, 148, 149, 150, 151, 152] [0, 1, 3, 7, 15, 31, 7, 71, 199, 511, 1023, 2047, 4095, 8191, 4095, 32767, 65535, 131071, 262143, 524287, 1048575, 2097151, 4194303, 4194303, 16777215, 33554431, 67108863, 134217727, 268435455, 268435455, 805306367, 1879048191, 4026531839, 8321499135, 17179869183, 34359738367, 68719476735] [(0, 1117), (0, 2117), (0, 3117), (1, 1118), (1, 2118), (1, 3118), (1, 4118), (1, 5118), (1, 6118), (1, 7118), (1, 8118), (4, 1121), (7, 1124), (12, 1129), (12, 2129), (12, 3129), (13, 1130), (13, 2130), (13, 3130), (13, 4130), (13, 5130), (13, 6130), (13, 7130), (13, 8130), (14, 1131), (14, 2131), (14, 3131), (15, 1132), (15, 2132), (15, 3132), (15, 4132), (15, 5132), (15, 6132), (15, 7132), (15, 8132), (22, 1139), (22, 2139), (23, 1140), (23, 2140), (24, 1141), (24, 2141), (24, 3141), (24, 4141), (24, 5141), (24, 6141), (24, 7141), (24, 8141), (30, 1147), (32, 1149), (32, 2149), (32, 3149), (32, 4149), (32, 5149), (32, 6149), (32, 7149), (32, 8149), (33, 1150), (33, 2150), (33, 3150), (33, 4150), (33, 5150), (33, 6150), (33, 7150), (33, 8150), (34, 1151), (34, 2151), (34, 3151), (34, 4151), (34, 5151), (34, 6151), (34, 7151), (34, 8151)] [o 117 (.load true 3 (tt 6)),
    o 118 (.call 13 [(tt 117)]),
    o 119 (.mov (tt 118)),
    og 120 119 true (.fadr 1 (tt 6)),
    og 121 119 true (.load false 1 (tt 120)),
    og 122 119 true (.len (tt 121)),
    og 123 119 true (.fadr 1 (tt 3)),
    og 124 119 true (.load false 1 (tt 123)),
    og 125 119 true (.len (tt 124)),
    og 126 119 true (.bin .eql (tt 122) (tt 125)),
    o 127 (.pick (tt 119) (tt 126) (cb false)),
    o 128 (.mov (tt 127)),
    og 129 128 true (.load true 3 (tt 6)),
    og 130 128 true (.call 14 [(tt 129)]),
    og 131 128 true (.load true 3 (tt 3)),
    og 132 128 true (.call 14 [(tt 131)]),
    og 133 128 true (.bin .eql (tt 130) (tt 132)),
    o 134 (.pick (tt 128) (tt 133) (cb false)),
    o 135 (.mov (tt 134)),
    og 136 135 true (.mov (tt 14)),
    og 137 135 true (.un .not (tt 136)),
    og 138 135 true (.mov (tt 137)),
    og 139 138 false (.load true 2 (tt 15)),
    og 140 138 false (.load true 2 (tt 17)),
    og 141 138 false (.call 15 [(tt 139), (tt 140)]),
    og 142 135 true (.pick (tt 138) (cb true) (tt 141)),
    o 143 (.pick (tt 135) (tt 142) (cb false)),
    o 144 (.mov (tt 143)),
    og 145 144 true (.mov (tt 7)),
    og 146 144 true (.fadr 1 (tt 3)),
    og 147 144 true (.load false 1 (tt 146)),
    og 148 144 true (.len (tt 147)),
    og 149 144 true (.call 17 [(tt 148)]),
    og 150 144 true (.call 16 [(ci 2), (tt 149)]),
    og 151 144 true (.call 8 [(tt 145), (tt 150)]),
    o 152 (.pick (tt 144) (tt 151) (cb false)),
    o 2 (.mov (tt 152))])
  .ret))))))
def ir3 : Ir :=
  (.seq
  (.reg [] [o 2 (.mov (cb false))])
  (.seq
  (.seq
  (.reg [18, 19] [o 18 (.mov (tt 0)),
    o 19 (.len (tt 18)),
    o 20 (.bin .gtr (tt 19) (ci 1048576))])
  (.cond (tt 20)
   (.seq
   (.reg [] [o 2 (.mov (cb true))])
   .ret)
   .skip))
  (.seq
  (.reg [22, 23, 21, 24, 25, 26] [o 22 (.mov (tt 0)),
    o 23 (.call 4 [(tt 22)]),
    o 21 (.mov (tt 23)),
    o 24 (.ext (tt 21) 0),
    o 25 (.ext (tt 21) 1),
    o 26 (.ext (tt 21) 2),
    o 3 (.alloc [(.slice none 0 0), (.slice none 0 0), (.slice none 0 0)]),
    on (.store 3 (tt 3) (tt 24)),
    o 4 (.mov (tt 25)),
    o 5 (.mov (tt 26))])
  (.seq
  (.reg [28, 29, 30, 31, 27, 32, 33, 34] [o 28 (.load true 3 (tt 3)),
    o 29 (.mov (tt 4)),
    o 30 (.mov (tt 5)),
    o 31 (.call 5 [(tt 28), (tt 29), (tt 30)]),
    o 27 (.mov (tt 31)),
    o 32 (.ext (tt 27) 0),
    o 33 (.ext (tt 27) 1),
    o 34 (.ext (tt 27) 2),
    o 6 (.alloc [(.slice none 0 0), (.slice none 0 0), (.slice none 0 0)]),
    on (.store 3 (tt 6) (tt 32)),
    o 7 (.mov (tt 33)),
    o 8 (.mov (tt 34))])
  (.seq
  (.reg [36, 37, 38, 39, 35, 40, 41, 42] [o 36 (.load true 3 (tt 3)),
    o 37 (.mov (tt 4)),
    o 38 (.mov (tt 5)),
    o 39 (.call 6 [(tt 36), (tt 37), (tt 38)]),
    o 35 (.mov (tt 39)),
    o 40 (.ext (tt 35) 0),
    o 41 (.ext (tt 35) 1),
    o 42 (.ext (tt 35) 2),
    o 9 (.alloc [(.slice none 0 0), (.slice none 0 0), (.slice none 0 0)]),
    on (.store 3 (tt 9) (tt 40)),
    o 10 (.mov (tt 41)),
    o 11 (.mov (tt 42))])
  (.seq
  (.seq
  (.reg [43, 44, 45, 46, 47, 48, 49, 50, 51, 52, 53, 54, 55, 56] [o 43 (.load true 3 (tt 6)),
    o 44 (.load true 3 (tt 9)),
    o 45 (.call 7 [(tt 43), (tt 44)]),
    o 46 (.un .not (tt 45)),
    o 47 (.mov (tt 46)),
    og 48 47 false (.mov (tt 7)),
    og 49 47 false (.mov (tt 10)),
    og 50 47 false (.call 8 [(tt 48), (tt 49)]),
    og 51 47 false (.un .not (tt 50)),
    o 52 (.pick (tt 47) (cb true) (tt 51)),
    o 53 (.mov (tt 52)),
    og 54 53 false (.mov (tt 8)),
    og 55 53 false (.mov (tt 11)),
    og 56 53 false (.binB .neq (tt 54) (tt 55)),
    o 57 (.pick (tt 53) (cb true) (tt 56))])
  (.cond (tt 57)
   (.seq
   (.reg [] [o 2 (.mov (cb false))])
   .ret)
   .skip))
  (.seq
  (.seq
  (.reg [58] [o 58 (.mov (tt 8)),
    o 59 (.un .not (tt 58))])
  (.cond (tt 59)
   (.seq
   (.reg [60, 61, 62, 63, 64, 65, 66, 67, 68, 69, 70, 71] [o 60 (.fadr 0 (tt 6)),
     o 61 (.load false 1 (tt 60)),
     o 62 (.len (tt 61)),
     o 63 (.bin .eql (tt 62) (ci 0)),
     o 64 (.mov (tt 63)),
     og 65 64 true (.mov (tt 7)),
     og 66 64 true (.len (tt 65)),
     og 67 64 true (.bin .eql (tt 66) (ci 0)),
     o 68 (.pick (tt 64) (tt 67) (cb false)),
     o 69 (.mov (tt 68)),
     og 70 69 true (.call 9 []),
     o 71 (.pick (tt 69) (tt 70) (cb false)),
     o 2 (.mov (tt 71))])
   .ret)
   .skip))
  (.seq
  (.seq
  (.reg [] [o 12 (.mov (ci 1))])
  (.block 0
   (.loop ir3_L1)))
  ir3_T2))))))))
def keep3 : List Nat := [0, 2, 3, 4, 5, 6, 7, 8, 9, 10, 11, 12, 13, 14, 15, 16, 17, 20, 57, 59, 76, 92, 105, 109]
def res3 : List RI := [.tmp 2]
theorem chk3 : chk Tryd.prog 3 1 keep3 = some (ir3, res3) := by kernel_rfl

/-! ### the draw -/
theorem ev_dSP : ∀ (nn : Bool) (n : Nat) (f : Nat → Int), ev G0 res4 [] (3000 : Nat) (Or.call [] (AV.adr (0 : Nat) (0 : Nat)) [((0 : Nat), RD nn (openN n) f (0 : Nat))] (Or.callE [(1008 : Nat)] DP (DpOk (0 : Nat) (Int.toNat (20 : Int))) dpR (dpH nn (openN n) f) fun (x : DP) => Or.call [(1008 : Nat)] (AI (pickV (openN n) f x.p (6 : Int))) [((0 : Nat), RD nn (openN n) f (x.p + (1 : Nat)))] (Or.call [(1008 : Nat)] (AI (pickV (openN n) f (x.p + (1 : Nat)) (2 : Int))) [((0 : Nat), RD nn (openN n) f (x.p + (1 : Nat) + (1 : Nat)))] Or.nil))) [Item.ir ir4] (start [AV.p false (PV.sl nn (1 : Nat) n (PB f))] []) = VC.call (18 : Nat) [AV.p false (PV.sl nn (1 : Nat) n (PB f))] [] (AV.adr (0 : Nat) (0 : Nat)) [((0 : Nat), RD nn (openN n) f (0 : Nat))] (VC.callE DP (19 : Nat) [AV.adr (0 : Nat) (0 : Nat), AV.p true (PV.v (Value.int IntKind.i64 (0 : Int))), AV.p true (PV.v (Value.int IntKind.i64 (20 : Int))), AV.p true (PV.v (Value.int IntKind.i64 (9 : Int)))] [((0 : Nat), Ob.box [AV.p false (PV.sl nn (1 : Nat) (openN n) (PB f)), AV.p true (PV.v (Value.int IntKind.i64 (↑(0 : Nat) : Int)))])] (DpOk (0 : Nat) (Int.toNat (20 : Int))) dpR (dpH nn (openN n) f) fun (x : DP) => VC.call (20 : Nat) [AV.adr (0 : Nat) (0 : Nat), AV.p true (PV.v (Value.int IntKind.i64 (6 : Int)))] [((0 : Nat), Ob.box [AV.p false (PV.sl nn (1 : Nat) (openN n) (PB f)), AV.p true (PV.v (Value.int IntKind.i64 (↑x.p : Int)))])] (AI (pickV (openN n) f x.p (6 : Int))) [((0 : Nat), RD nn (openN n) f (x.p + (1 : Nat)))] (VC.need ((0 : Int) ≤ pickV (openN n) f x.p (6 : Int) ∧ (pickV (openN n) f x.p (6 : Int)).toNat < (6 : Nat)) (VC.need ((pickV (openN n) f x.p (6 : Int)).toNat < (6 : Nat)) (VC.need ((0 : Int) ≤ litI [(0 : Int), (1 : Int), (1 : Int), (1 : Int), (2 : Int), (3 : Int)] (pickV (openN n) f x.p (6 : Int)).toNat ∧ (litI [(0 : Int), (1 : Int), (1 : Int), (1 : Int), (2 : Int), (3 : Int)] (pickV (openN n) f x.p (6 : Int)).toNat).toNat < (4 : Nat)) (VC.need ((litI [(0 : Int), (1 : Int), (1 : Int), (1 : Int), (2 : Int), (3 : Int)] (pickV (openN n) f x.p (6 : Int)).toNat).toNat < (4 : Nat)) (VC.call (20 : Nat) [AV.adr (0 : Nat) (0 : Nat), AV.p true (PV.v (Value.int IntKind.i64 (2 : Int)))] [((0 : Nat), Ob.box [AV.p false (PV.sl nn (1 : Nat) (openN n) (PB f)), AV.p true (PV.v (Value.int IntKind.i64 (↑(x.p + (1 : Nat)) : Int)))])] (AI (pickV (openN n) f (x.p + (1 : Nat)) (2 : Int))) [((0 : Nat), RD nn (openN n) f (x.p + (1 : Nat) + (1 : Nat)))] (VC.done (St.mk [((0 : Nat), AV.p false (PV.sl nn (1 : Nat) n (PB f))), ((2 : Nat), AV.adr (2 : Nat) (0 : Nat)), ((3 : Nat), AV.p true (PV.v (Value.string (litS [ByteArray.mk #[], ByteArray.mk #[(97 : UInt8)], ByteArray.mk #[(98 : UInt8)], ByteArray.mk #[(120 : UInt8)]] (litI [(0 : Int), (1 : Int), (1 : Int), (1 : Int), (2 : Int), (3 : Int)] (pickV (openN n) f x.p (6 : Int)).toNat).toNat)))), ((4 : Nat), AV.p true (PV.v (Value.bool (pickV (openN n) f (x.p + (1 : Nat)) (2 : Int) == (0 : Int))))), ((5 : Nat), AV.adr (1008 : Nat) (0 : Nat)), ((6 : Nat), AV.adr (6 : Nat) (0 : Nat))] [((2 : Nat), Ob.box [AV.own (1010 : Nat), AV.own (2010 : Nat), AV.own (3010 : Nat)]), ((1008 : Nat), Ob.box [AV.p false (PV.sl nn (1 : Nat) (openN n) (PB f)), AV.p true (PV.v (Value.int IntKind.i64 (↑(x.p + (1 : Nat) + (1 : Nat)) : Int)))]), ((1010 : Nat), Ob.row Mode.u false (1 : Nat) x.n (TR x.f) []), ((2010 : Nat), Ob.row Mode.u false (1 : Nat) x.m (RR x.w x.h) []), ((3010 : Nat), Ob.row Mode.u false (1 : Nat) x.k (MK x.r) []), ((6 : Nat), Ob.box [AV.own (1010 : Nat), AV.own (2010 : Nat), AV.own (3010 : Nat)])])))))))) := by intros; kernel_rfl
structure PdD (y : DP × ByteArray × Bool) : Prop where
  pd : PdOk y.1.n y.1.f y.1.m y.1.w y.1.k
  hv : padB y.1.n y.1.f y.1.m y.1.w y.1.h y.1.k y.1.r = true → y.1.m ≤ 20
abbrev dpR2 (y : DP × ByteArray × Bool) : AV := .tp [pdR, AT y.2.1, AB y.2.2]
abbrev dpH2 (y : DP × ByteArray × Bool) : List (Nat × Ob) := pkH y.1.n y.1.f y.1.m y.1.w y.1.h y.1.k y.1.r
theorem c_dSP (nn : Bool) (n : Nat) (f : Nat → Int) (hb : Bytes f) : PSome Tryd.prog G0 4 [.p false (.sl nn 1 n (PB f))] [] (DP × ByteArray × Bool) PdD dpR2 dpH2 := by
  refine PCall.by chk4 rfl (ev_dSP nn n f) ?_
  simp only [VC.holds_split, VC.holds_need, VC.holds_doneP, VC.holds_done, VC.holds_either, VC.holds_call, VC.holds_callE, VC.holds_lend, VC.holds_stop, VC.holds_fail, decide_eq_true_eq, decide_eq_false_iff_not]
  refine ⟨c_open _ _ _, c_dPad _ _ _ _ _ _ _ hb (by omega) (by omega) (by omega), fun d hd => ?_⟩
  have hp := hd.hp
  have r1 := pick_rng (n := openN n) (p := d.p) (m := 6) hb (by omega) (by omega)
  have k1 := lit_rng (lo := 0) (hi := 3) (l := [0, 1, 1, 1, 2, 3]) (by decide) (i := (pickV (openN n) f d.p 6).toNat) (by simp only [List.length_cons, List.length_nil]; omega)
  have hn := hd.hn
  have hm := hd.hm
  have hk := hd.hk
  have e20 : (20 : Int).toNat = 20 := rfl
  simp only [e20] at hm hk
  refine ⟨c_pick _ _ _ _ _ hb (by omega), by omega, by omega, by omega, by omega, c_pick _ _ _ _ _ hb (by omega), ?_⟩
  generalize litS [ByteArray.mk #[], ByteArray.mk #[97], ByteArray.mk #[98], ByteArray.mk #[120]] (litI [0, 1, 1, 1, 2, 3] (pickV (openN n) f d.p 6).toNat).toNat = S at *
  refine ResOk.mk [] [(0, 1010), (1, 2010), (2, 3010)] [] _ _ ?_ ⟨(d, S, pickV (openN n) f (d.p + 1) 2 == 0), ⟨⟨⟨by simp only []; omega, fun i hi => by have := hd.hf i hi; simp only []; omega, by simp only []; omega, fun i hi => by have := hd.hw i hi; simp only []; omega⟩, by simp only []; omega⟩, hd.hv⟩, rfl, rfl⟩
  simp [doneC, resOf, resAV, tup, pinR, PV.Le_self, hbs, St.lowers, St.lower, stLe, leEnv, leObs, obLe, injB, pinC, AV.leC, AV.leCs, PV.leC, PV.Le_v, St.get, St.obj, look, rho, isNew, keptC, renH, Mode.ok, Mode.isZ, PV.isVal, PV.isNilSl, List.all_nil, List.all_cons, List.any_nil, List.any_cons, List.map_nil, List.map_cons, res4, AV.leCs]
/-! ### the law -/
theorem c_imSK (n : Nat) (f : Nat → ByteArray) (m : Nat) (w : Nat → Nat) (h : Nat → Nat → Int) (k : Nat) (r : Nat → Bool) (s : ByteArray) (dn : Bool) (ok : SpOk n f m w h k r) : PObj Tryd.prog G0 5 [PD false false false n f m w h k r, AT s, AB dn] [] (spR (spB n f m w h k r s)) (spH n f m w h k r s dn) := c_imSP n f m w h k r s dn ok
theorem ev_lSP : ∀ (nn : Bool) (n : Nat) (f : Nat → Int), ev G0 res3 [] (3000 : Nat) (Or.nil.split (Or.callE [] (DP × ByteArray × Bool) PdD dpR2 dpH2 fun (x : DP × ByteArray × Bool) => Or.call [] (spR (spB x.1.n x.1.f x.1.m x.1.w x.1.h x.1.k x.1.r x.2.1)) (spH x.1.n x.1.f x.1.m x.1.w x.1.h x.1.k x.1.r x.2.1 x.2.2) (Or.call [] (spR (spB x.1.n x.1.f x.1.m x.1.w x.1.h x.1.k x.1.r x.2.1)) (spF x.1.n x.1.f x.1.m x.1.w x.1.h x.1.k x.1.r x.2.1 x.2.2) (Or.call [] (AB (sameT (spN x.1.n x.1.f x.1.m x.1.w x.1.h x.1.k x.1.r x.2.1) x.1.f (spN x.1.n x.1.f x.1.m x.1.w x.1.h x.1.k x.1.r x.2.1) x.1.f && (sameR (List.length (spT x.1.n x.1.f x.1.m x.1.w x.1.h x.1.k x.1.r x.2.1 x.2.2)) (iw (spT x.1.n x.1.f x.1.m x.1.w x.1.h x.1.k x.1.r x.2.1 x.2.2)) (ih (spT x.1.n x.1.f x.1.m x.1.w x.1.h x.1.k x.1.r x.2.1 x.2.2)) (List.length (spT x.1.n x.1.f x.1.m x.1.w x.1.h x.1.k x.1.r x.2.1 x.2.2)) (iw (spT x.1.n x.1.f x.1.m x.1.w x.1.h x.1.k x.1.r x.2.1 x.2.2)) (ih (spT x.1.n x.1.f x.1.m x.1.w x.1.h x.1.k x.1.r x.2.1 x.2.2)) && sameM (List.length (spT x.1.n x.1.f x.1.m x.1.w x.1.h x.1.k x.1.r x.2.1 x.2.2)) (ib (spT x.1.n x.1.f x.1.m x.1.w x.1.h x.1.k x.1.r x.2.1 x.2.2)) (List.length (spT x.1.n x.1.f x.1.m x.1.w x.1.h x.1.k x.1.r x.2.1 x.2.2)) (ib (spT x.1.n x.1.f x.1.m x.1.w x.1.h x.1.k x.1.r x.2.1 x.2.2))))) [] (Or.nil.lit.lit.lit.lit.lit.lit.lit.lit.lit.split (Or.call [] (AB (spL x.1.n x.1.f x.1.m x.1.w x.1.h x.1.k x.1.r x.2.1 == spL x.1.n x.1.f x.1.m x.1.w x.1.h x.1.k x.1.r x.2.1)) [] (Or.nil.lit.lit.lit.lit.split (Or.nil.split ((((Or.call [] (AB true) [] Or.nil.lit).split Or.nil.lit).lit.lit.lit.split Or.nil.lit.lit.lit.lit.lit).split Or.nil)).lit.lit.lit).lit.lit).lit.lit))))) [Item.ir ir3] (start [AV.p false (PV.sl nn (1 : Nat) n (PB f))] []) = VC.split (decide ((1048576 : Int) < (↑n : Int))) (VC.doneP (AV.p true (PV.v (Value.bool true)))) (VC.callE (DP × ByteArray × Bool) (4 : Nat) [AV.p false (PV.sl nn (1 : Nat) n (PB f))] [] PdD dpR2 dpH2 fun (x : DP × ByteArray × Bool) => VC.call (5 : Nat) [AV.ag [AV.p false (PV.sl false (1 : Nat) x.1.n (TR x.1.f)), AV.p false (PV.sl false (1 : Nat) x.1.m (RR x.1.w x.1.h)), AV.p false (PV.sl false (1 : Nat) x.1.k (MK x.1.r))], AV.p true (PV.v (Value.string x.2.1)), AV.p true (PV.v (Value.bool x.2.2))] [] (spR (spB x.1.n x.1.f x.1.m x.1.w x.1.h x.1.k x.1.r x.2.1)) (spH x.1.n x.1.f x.1.m x.1.w x.1.h x.1.k x.1.r x.2.1 x.2.2) (VC.call (6 : Nat) [AV.ag [AV.p false (PV.sl false (1 : Nat) x.1.n (TR x.1.f)), AV.p false (PV.sl false (1 : Nat) x.1.m (RR x.1.w x.1.h)), AV.p false (PV.sl false (1 : Nat) x.1.k (MK x.1.r))], AV.p true (PV.v (Value.string x.2.1)), AV.p true (PV.v (Value.bool x.2.2))] [] (spR (spB x.1.n x.1.f x.1.m x.1.w x.1.h x.1.k x.1.r x.2.1)) (spF x.1.n x.1.f x.1.m x.1.w x.1.h x.1.k x.1.r x.2.1 x.2.2) (VC.call (7 : Nat) [AV.ag [AV.p false (PV.sl false (1 : Nat) (spN x.1.n x.1.f x.1.m x.1.w x.1.h x.1.k x.1.r x.2.1) (TR x.1.f)), AV.p false (PV.sl false (1 : Nat) (List.length (spT x.1.n x.1.f x.1.m x.1.w x.1.h x.1.k x.1.r x.2.1 x.2.2)) (RR (iw (spT x.1.n x.1.f x.1.m x.1.w x.1.h x.1.k x.1.r x.2.1 x.2.2)) (ih (spT x.1.n x.1.f x.1.m x.1.w x.1.h x.1.k x.1.r x.2.1 x.2.2)))), AV.p false (PV.sl false (1 : Nat) (List.length (spT x.1.n x.1.f x.1.m x.1.w x.1.h x.1.k x.1.r x.2.1 x.2.2)) (MK (ib (spT x.1.n x.1.f x.1.m x.1.w x.1.h x.1.k x.1.r x.2.1 x.2.2))))], AV.ag [AV.p false (PV.sl false (1 : Nat) (spN x.1.n x.1.f x.1.m x.1.w x.1.h x.1.k x.1.r x.2.1) (TR x.1.f)), AV.p false (PV.sl false (1 : Nat) (List.length (spT x.1.n x.1.f x.1.m x.1.w x.1.h x.1.k x.1.r x.2.1 x.2.2)) (RR (iw (spT x.1.n x.1.f x.1.m x.1.w x.1.h x.1.k x.1.r x.2.1 x.2.2)) (ih (spT x.1.n x.1.f x.1.m x.1.w x.1.h x.1.k x.1.r x.2.1 x.2.2)))), AV.p false (PV.sl false (1 : Nat) (List.length (spT x.1.n x.1.f x.1.m x.1.w x.1.h x.1.k x.1.r x.2.1 x.2.2)) (MK (ib (spT x.1.n x.1.f x.1.m x.1.w x.1.h x.1.k x.1.r x.2.1 x.2.2))))]] [] (AB (sameT (spN x.1.n x.1.f x.1.m x.1.w x.1.h x.1.k x.1.r x.2.1) x.1.f (spN x.1.n x.1.f x.1.m x.1.w x.1.h x.1.k x.1.r x.2.1) x.1.f && (sameR (List.length (spT x.1.n x.1.f x.1.m x.1.w x.1.h x.1.k x.1.r x.2.1 x.2.2)) (iw (spT x.1.n x.1.f x.1.m x.1.w x.1.h x.1.k x.1.r x.2.1 x.2.2)) (ih (spT x.1.n x.1.f x.1.m x.1.w x.1.h x.1.k x.1.r x.2.1 x.2.2)) (List.length (spT x.1.n x.1.f x.1.m x.1.w x.1.h x.1.k x.1.r x.2.1 x.2.2)) (iw (spT x.1.n x.1.f x.1.m x.1.w x.1.h x.1.k x.1.r x.2.1 x.2.2)) (ih (spT x.1.n x.1.f x.1.m x.1.w x.1.h x.1.k x.1.r x.2.1 x.2.2)) && sameM (List.length (spT x.1.n x.1.f x.1.m x.1.w x.1.h x.1.k x.1.r x.2.1 x.2.2)) (ib (spT x.1.n x.1.f x.1.m x.1.w x.1.h x.1.k x.1.r x.2.1 x.2.2)) (List.length (spT x.1.n x.1.f x.1.m x.1.w x.1.h x.1.k x.1.r x.2.1 x.2.2)) (ib (spT x.1.n x.1.f x.1.m x.1.w x.1.h x.1.k x.1.r x.2.1 x.2.2))))) [] (VC.split (!(sameT (spN x.1.n x.1.f x.1.m x.1.w x.1.h x.1.k x.1.r x.2.1) x.1.f (spN x.1.n x.1.f x.1.m x.1.w x.1.h x.1.k x.1.r x.2.1) x.1.f && (sameR (List.length (spT x.1.n x.1.f x.1.m x.1.w x.1.h x.1.k x.1.r x.2.1 x.2.2)) (iw (spT x.1.n x.1.f x.1.m x.1.w x.1.h x.1.k x.1.r x.2.1 x.2.2)) (ih (spT x.1.n x.1.f x.1.m x.1.w x.1.h x.1.k x.1.r x.2.1 x.2.2)) (List.length (spT x.1.n x.1.f x.1.m x.1.w x.1.h x.1.k x.1.r x.2.1 x.2.2)) (iw (spT x.1.n x.1.f x.1.m x.1.w x.1.h x.1.k x.1.r x.2.1 x.2.2)) (ih (spT x.1.n x.1.f x.1.m x.1.w x.1.h x.1.k x.1.r x.2.1 x.2.2)) && sameM (List.length (spT x.1.n x.1.f x.1.m x.1.w x.1.h x.1.k x.1.r x.2.1 x.2.2)) (ib (spT x.1.n x.1.f x.1.m x.1.w x.1.h x.1.k x.1.r x.2.1 x.2.2)) (List.length (spT x.1.n x.1.f x.1.m x.1.w x.1.h x.1.k x.1.r x.2.1 x.2.2)) (ib (spT x.1.n x.1.f x.1.m x.1.w x.1.h x.1.k x.1.r x.2.1 x.2.2))))) (VC.doneP (AV.p true (PV.v (Value.bool false)))) (VC.call (8 : Nat) [AV.p false (PV.sl false (3 : Nat) (List.length (spL x.1.n x.1.f x.1.m x.1.w x.1.h x.1.k x.1.r x.2.1)) (CB (spL x.1.n x.1.f x.1.m x.1.w x.1.h x.1.k x.1.r x.2.1))), AV.p false (PV.sl false (3 : Nat) (List.length (spL x.1.n x.1.f x.1.m x.1.w x.1.h x.1.k x.1.r x.2.1)) (CB (spL x.1.n x.1.f x.1.m x.1.w x.1.h x.1.k x.1.r x.2.1)))] [] (AB (spL x.1.n x.1.f x.1.m x.1.w x.1.h x.1.k x.1.r x.2.1 == spL x.1.n x.1.f x.1.m x.1.w x.1.h x.1.k x.1.r x.2.1)) [] (VC.split (!spL x.1.n x.1.f x.1.m x.1.w x.1.h x.1.k x.1.r x.2.1 == spL x.1.n x.1.f x.1.m x.1.w x.1.h x.1.k x.1.r x.2.1) (VC.doneP (AV.p true (PV.v (Value.bool false)))) (VC.split (!spB x.1.n x.1.f x.1.m x.1.w x.1.h x.1.k x.1.r x.2.1 == spB x.1.n x.1.f x.1.m x.1.w x.1.h x.1.k x.1.r x.2.1) (VC.doneP (AV.p true (PV.v (Value.bool false)))) (VC.split (!spB x.1.n x.1.f x.1.m x.1.w x.1.h x.1.k x.1.r x.2.1) (VC.split ((↑(spN x.1.n x.1.f x.1.m x.1.w x.1.h x.1.k x.1.r x.2.1) : Int) == (0 : Int)) (VC.split ((↑(List.length (spL x.1.n x.1.f x.1.m x.1.w x.1.h x.1.k x.1.r x.2.1)) : Int) == (0 : Int)) (VC.call (9 : Nat) [] [] (AB true) [] (VC.doneP (AV.p true (PV.v (Value.bool true))))) (VC.doneP (AV.p true (PV.v (Value.bool false))))) (VC.doneP (AV.p true (PV.v (Value.bool false))))) (VC.loop ir3_L1 [Item.bend (0 : Nat), Item.ir ir3_T2] (St.mk [((0 : Nat), AV.p false (PV.sl nn (1 : Nat) n (PB f))), ((2 : Nat), AV.p true (PV.v (Value.bool false))), ((20 : Nat), AV.p true (PV.v (Value.bool (decide ((1048576 : Int) < (↑n : Int)))))), ((3 : Nat), AV.adr (3 : Nat) (0 : Nat)), ((4 : Nat), AV.p true (PV.v (Value.string x.2.1))), ((5 : Nat), AV.p true (PV.v (Value.bool x.2.2))), ((6 : Nat), AV.adr (6 : Nat) (0 : Nat)), ((7 : Nat), AV.own (4031 : Nat)), ((8 : Nat), AV.p true (PV.v (Value.bool (spB x.1.n x.1.f x.1.m x.1.w x.1.h x.1.k x.1.r x.2.1)))), ((9 : Nat), AV.adr (9 : Nat) (0 : Nat)), ((10 : Nat), AV.own (4039 : Nat)), ((11 : Nat), AV.p true (PV.v (Value.bool (spB x.1.n x.1.f x.1.m x.1.w x.1.h x.1.k x.1.r x.2.1)))), ((57 : Nat), AV.p true (PV.v (Value.bool !spB x.1.n x.1.f x.1.m x.1.w x.1.h x.1.k x.1.r x.2.1 == spB x.1.n x.1.f x.1.m x.1.w x.1.h x.1.k x.1.r x.2.1))), ((59 : Nat), AV.p true (PV.v (Value.bool !spB x.1.n x.1.f x.1.m x.1.w x.1.h x.1.k x.1.r x.2.1))), ((12 : Nat), AV.p true (PV.v (Value.int IntKind.i64 (1 : Int))))] [((1023 : Nat), Ob.row Mode.u false (1 : Nat) x.1.n (TR x.1.f) []), ((2023 : Nat), Ob.row Mode.u false (1 : Nat) x.1.m (RR x.1.w x.1.h) []), ((3023 : Nat), Ob.row Mode.u false (1 : Nat) x.1.k (MK x.1.r) []), ((3 : Nat), Ob.box [AV.own (1023 : Nat), AV.own (2023 : Nat), AV.own (3023 : Nat)]), ((1031 : Nat), Ob.row Mode.u false (1 : Nat) (spN x.1.n x.1.f x.1.m x.1.w x.1.h x.1.k x.1.r x.2.1) (TR x.1.f) []), ((2031 : Nat), Ob.row Mode.u false (1 : Nat) (List.length (spT x.1.n x.1.f x.1.m x.1.w x.1.h x.1.k x.1.r x.2.1 x.2.2)) (RR (iw (spT x.1.n x.1.f x.1.m x.1.w x.1.h x.1.k x.1.r x.2.1 x.2.2)) (ih (spT x.1.n x.1.f x.1.m x.1.w x.1.h x.1.k x.1.r x.2.1 x.2.2))) []), ((3031 : Nat), Ob.row Mode.u false (1 : Nat) (List.length (spT x.1.n x.1.f x.1.m x.1.w x.1.h x.1.k x.1.r x.2.1 x.2.2)) (MK (ib (spT x.1.n x.1.f x.1.m x.1.w x.1.h x.1.k x.1.r x.2.1 x.2.2))) []), ((4031 : Nat), Ob.row Mode.u false (3 : Nat) (List.length (spL x.1.n x.1.f x.1.m x.1.w x.1.h x.1.k x.1.r x.2.1)) (CB (spL x.1.n x.1.f x.1.m x.1.w x.1.h x.1.k x.1.r x.2.1)) []), ((6 : Nat), Ob.box [AV.own (1031 : Nat), AV.own (2031 : Nat), AV.own (3031 : Nat)]), ((1039 : Nat), Ob.row Mode.u false (1 : Nat) (spN x.1.n x.1.f x.1.m x.1.w x.1.h x.1.k x.1.r x.2.1) (TR x.1.f) []), ((2039 : Nat), Ob.row Mode.f false (1 : Nat) (List.length (spT x.1.n x.1.f x.1.m x.1.w x.1.h x.1.k x.1.r x.2.1 x.2.2)) (RR (iw (spT x.1.n x.1.f x.1.m x.1.w x.1.h x.1.k x.1.r x.2.1 x.2.2)) (ih (spT x.1.n x.1.f x.1.m x.1.w x.1.h x.1.k x.1.r x.2.1 x.2.2))) []), ((3039 : Nat), Ob.row Mode.u false (1 : Nat) (List.length (spT x.1.n x.1.f x.1.m x.1.w x.1.h x.1.k x.1.r x.2.1 x.2.2)) (MK (ib (spT x.1.n x.1.f x.1.m x.1.w x.1.h x.1.k x.1.r x.2.1 x.2.2))) []), ((4039 : Nat), Ob.row Mode.u false (3 : Nat) (List.length (spL x.1.n x.1.f x.1.m x.1.w x.1.h x.1.k x.1.r x.2.1)) (CB (spL x.1.n x.1.f x.1.m x.1.w x.1.h x.1.k x.1.r x.2.1)) []), ((9 : Nat), Ob.box [AV.own (1039 : Nat), AV.own (2039 : Nat), AV.own (3039 : Nat)])])))))))))) := by intros; kernel_rfl
def st_lP (n : Nat) (f : Nat → ByteArray) (m : Nat) (w : Nat → Nat) (h : Nat → Nat → Int) (k : Nat) (r : Nat → Bool) (s : ByteArray) (dn : Bool) (T : LI) (L : LA) (q : Nat) : St := ⟨[(3, .adr 3 0), (4, AT s), (5, AB dn), (6, .adr 6 0), (7, .own 4031), (12, AI q)], [(1023, .row .u false 1 n (TR f) []), (2023, .row .u false 1 m (RR w h) []), (3023, .row .u false 1 k (MK r) []), (3, .box [.own 1023, .own 2023, .own 3023]), (1031, .row .u false 1 n (TR f) []), (2031, .row .u false 1 T.length (RR (iw T) (ih T)) []), (3031, .row .u false 1 T.length (MK (ib T)) []), (4031, CR false L), (6, .box [.own 1031, .own 2031, .own 3031])]⟩
theorem evr_lP : ∀ (n : Nat) (f : Nat → ByteArray) (m : Nat) (w : Nat → Nat) (h : Nat → Nat → Int) (k : Nat) (r : Nat → Bool) (s : ByteArray) (dn : Bool) (T : LI) (L : LA) (I : Nat → St → Prop) (q : Nat), ev G0 res3 [] (3000 : Nat) (((Or.nil.split Or.nil).lit.lit.lit.lit.lit.lit.lit.split Or.nil.lit.lit.lit.lit.lit.lit.lit.lit).split (Or.call [] (tkR (tkB n f m w h k r)) (tkH (tkN n f m w h k r) f (tkS n f m w h k r)) (Or.call [] (tkR (tkB n f (List.length T) (iw T) (ih T) (List.length T) (ib T))) (tkH (tkN n f (List.length T) (iw T) (ih T) (List.length T) (ib T)) f (tkS n f (List.length T) (iw T) (ih T) (List.length T) (ib T))) (Or.nil.split (Or.call [] taR (srH (tkN n f m w h k r) f (List.length (tkS n f m w h k r)) (wL (tkS n f m w h k r)) (hL (tkS n f m w h k r))) ((Or.call [] (orR (tkN n f m w h k r) f (List.length (tkS n f m w h k r)) (wL (tkS n f m w h k r)) (hL (tkS n f m w h k r)) s) (orH (tkN n f m w h k r) f (List.length (tkS n f m w h k r)) (wL (tkS n f m w h k r)) (hL (tkS n f m w h k r)) s dn) (Or.call [] (AB (padB n f (List.length T) (iw T) (ih T) (List.length T) (ib T))) [] (((Or.call [] (AI (if padB n f (List.length T) (iw T) (ih T) (List.length T) (ib T) = true then (↑(cntB (ib T) (List.length T)) : Int) else (-1 : Int))) [] (Or.call [] (AI (if padB n f m w h k r = true then (↑(cntB r k) : Int) else (-1 : Int))) [] (((Or.call [] (AV.own (0 : Nat)) [((0 : Nat), NR false (netL m))] (Or.call [] (AV.own (0 : Nat)) [((0 : Nat), CR false (trL (nat_lit 2) (netL m)))] (Or.call [] (AB (L == trL (nat_lit 2) (netL m))) [] Or.nil.lit).lit).lit).lit.lit.lit.lit.lit.lit.lit.lit.lit.lit.split (Or.call [] (AB (sameT (tkN n f (List.length T) (iw T) (ih T) (List.length T) (ib T)) f (orN (tkN n f m w h k r) f (List.length (tkS n f m w h k r)) (wL (tkS n f m w h k r)) (hL (tkS n f m w h k r)) s) f && sameR (List.length (tkS n f (List.length T) (iw T) (ih T) (List.length T) (ib T))) (wL (tkS n f (List.length T) (iw T) (ih T) (List.length T) (ib T))) (hL (tkS n f (List.length T) (iw T) (ih T) (List.length T) (ib T))) (orM (tkN n f m w h k r) f (List.length (tkS n f m w h k r)) (wL (tkS n f m w h k r)) (hL (tkS n f m w h k r)) s) (wL (orS (tkN n f m w h k r) f (List.length (tkS n f m w h k r)) (wL (tkS n f m w h k r)) (hL (tkS n f m w h k r)) s dn)) (hL (orS (tkN n f m w h k r) f (List.length (tkS n f m w h k r)) (wL (tkS n f m w h k r)) (hL (tkS n f m w h k r)) s dn)))) [] ((Or.call [] (AV.own (0 : Nat)) [((0 : Nat), NR false (netL m))] (Or.call [] (AV.own (0 : Nat)) [((0 : Nat), CR false (trL (nat_lit 2) (netL m)))] (Or.call [] (AB (L == trL (nat_lit 2) (netL m))) [] Or.nil.lit).lit).lit).lit.lit.lit.lit.split Or.nil.lit.lit.lit.lit.lit.lit.lit).lit.lit.lit).lit.lit).lit.lit.split Or.nil.lit.lit.lit.lit.lit.lit.lit.lit.lit.lit.lit.lit).lit.lit).lit.lit).lit.split Or.nil.lit.lit.lit.lit.lit.lit.lit.lit.lit.lit.lit.lit.lit.lit.lit.lit.lit.lit).lit.lit.lit.lit.lit.lit.lit.split Or.nil.lit.lit.lit.lit.lit.lit.lit.lit.lit.lit.lit.lit.lit.lit.lit.lit.lit.lit.lit.lit.lit.lit.lit.lit.lit.lit))).split (Or.call [] (AB (padB n f (List.length T) (iw T) (ih T) (List.length T) (ib T))) [] (((Or.call [] (AI (if padB n f (List.length T) (iw T) (ih T) (List.length T) (ib T) = true then (↑(cntB (ib T) (List.length T)) : Int) else (-1 : Int))) [] (Or.call [] (AI (if padB n f m w h k r = true then (↑(cntB r k) : Int) else (-1 : Int))) [] (((Or.call [] (AV.own (0 : Nat)) [((0 : Nat), NR false (netL m))] (Or.call [] (AV.own (0 : Nat)) [((0 : Nat), CR false (trL (nat_lit 2) (netL m)))] (Or.call [] (AB (L == trL (nat_lit 2) (netL m))) [] Or.nil.lit).lit).lit).lit.lit.lit.lit.lit.lit.lit.lit.lit.lit.split (Or.call [] (AB (sameT (tkN n f (List.length T) (iw T) (ih T) (List.length T) (ib T)) f (srN (tkN n f m w h k r) f (List.length (tkS n f m w h k r)) (wL (tkS n f m w h k r)) (hL (tkS n f m w h k r))) f && sameR (List.length (tkS n f (List.length T) (iw T) (ih T) (List.length T) (ib T))) (wL (tkS n f (List.length T) (iw T) (ih T) (List.length T) (ib T))) (hL (tkS n f (List.length T) (iw T) (ih T) (List.length T) (ib T))) (srM (tkN n f m w h k r) f (List.length (tkS n f m w h k r)) (wL (tkS n f m w h k r)) (hL (tkS n f m w h k r))) (wL (srtA (List.length (tkS n f m w h k r)) (wL (tkS n f m w h k r)) (hL (tkS n f m w h k r)))) (hL (srtA (List.length (tkS n f m w h k r)) (wL (tkS n f m w h k r)) (hL (tkS n f m w h k r)))))) [] ((Or.call [] (AV.own (0 : Nat)) [((0 : Nat), NR false (netL m))] (Or.call [] (AV.own (0 : Nat)) [((0 : Nat), CR false (trL (nat_lit 2) (netL m)))] (Or.call [] (AB (L == trL (nat_lit 2) (netL m))) [] Or.nil.lit).lit).lit).lit.lit.lit.lit.split Or.nil.lit.lit.lit.lit.lit.lit.lit).lit.lit.lit).lit.lit).lit.lit.split Or.nil.lit.lit.lit.lit.lit.lit.lit.lit.lit.lit.lit.lit).lit.lit).lit.lit).lit.split Or.nil.lit.lit.lit.lit.lit.lit.lit.lit.lit.lit.lit.lit.lit.lit.lit.lit.lit.lit).lit.lit.lit.lit.lit.lit.lit.split Or.nil.lit.lit.lit.lit.lit.lit.lit.lit.lit.lit.lit.lit.lit.lit.lit.lit.lit.lit.lit.lit.lit.lit.lit.lit.lit.lit)))))))) [Item.ir ir3_L1, Item.lend (I q), Item.bend (0 : Nat), Item.ir ir3_T2] (st_lP n f m w h k r s dn T L q) = VC.split (decide ((↑q : Int) < (↑(List.length T) : Int))) (VC.need ((0 : Int) ≤ (↑q : Int) ∧ (↑q : Int).toNat < List.length T) (VC.need ((↑q : Int).toNat < List.length T) (VC.split (ib T (↑q : Int).toNat) (VC.need ((0 : Int) ≤ IntKind.i64.wrap ((↑q : Int) - (1 : Int)) ∧ (IntKind.i64.wrap ((↑q : Int) - (1 : Int))).toNat < List.length T) (VC.need ((IntKind.i64.wrap ((↑q : Int) - (1 : Int))).toNat < List.length T) (VC.split (!ib T (IntKind.i64.wrap ((↑q : Int) - (1 : Int))).toNat) (VC.doneP (AV.p true (PV.v (Value.bool false)))) (VC.lend (I q) (St.mk [((3 : Nat), AV.adr (3 : Nat) (0 : Nat)), ((4 : Nat), AV.p true (PV.v (Value.string s))), ((5 : Nat), AV.p true (PV.v (Value.bool dn))), ((6 : Nat), AV.adr (6 : Nat) (0 : Nat)), ((7 : Nat), AV.own (4031 : Nat)), ((12 : Nat), AV.p true (PV.v (Value.int IntKind.i64 (IntKind.i64.wrap ((↑q : Int) + (1 : Int)))))), ((76 : Nat), AV.p true (PV.v (Value.bool (decide ((↑q : Int) < (↑(List.length T) : Int)))))), ((92 : Nat), AV.p true (PV.v (Value.bool !ib T (IntKind.i64.wrap ((↑q : Int) - (1 : Int))).toNat)))] [((1023 : Nat), Ob.row Mode.u false (1 : Nat) n (TR f) []), ((2023 : Nat), Ob.row Mode.u false (1 : Nat) m (RR w h) []), ((3023 : Nat), Ob.row Mode.u false (1 : Nat) k (MK r) []), ((3 : Nat), Ob.box [AV.own (1023 : Nat), AV.own (2023 : Nat), AV.own (3023 : Nat)]), ((1031 : Nat), Ob.row Mode.u false (1 : Nat) n (TR f) []), ((2031 : Nat), Ob.row Mode.u false (1 : Nat) (List.length T) (RR (iw T) (ih T)) []), ((3031 : Nat), Ob.row Mode.u false (1 : Nat) (List.length T) (MK (ib T)) []), ((4031 : Nat), Ob.row Mode.u false (3 : Nat) (List.length L) (CB L) []), ((6 : Nat), Ob.box [AV.own (1031 : Nat), AV.own (2031 : Nat), AV.own (3031 : Nat)])]))))) (VC.lend (I q) (St.mk [((3 : Nat), AV.adr (3 : Nat) (0 : Nat)), ((4 : Nat), AV.p true (PV.v (Value.string s))), ((5 : Nat), AV.p true (PV.v (Value.bool dn))), ((6 : Nat), AV.adr (6 : Nat) (0 : Nat)), ((7 : Nat), AV.own (4031 : Nat)), ((12 : Nat), AV.p true (PV.v (Value.int IntKind.i64 (IntKind.i64.wrap ((↑q : Int) + (1 : Int)))))), ((76 : Nat), AV.p true (PV.v (Value.bool (decide ((↑q : Int) < (↑(List.length T) : Int)))))), ((92 : Nat), AV.p true (PV.v (Value.bool false)))] [((1023 : Nat), Ob.row Mode.u false (1 : Nat) n (TR f) []), ((2023 : Nat), Ob.row Mode.u false (1 : Nat) m (RR w h) []), ((3023 : Nat), Ob.row Mode.u false (1 : Nat) k (MK r) []), ((3 : Nat), Ob.box [AV.own (1023 : Nat), AV.own (2023 : Nat), AV.own (3023 : Nat)]), ((1031 : Nat), Ob.row Mode.u false (1 : Nat) n (TR f) []), ((2031 : Nat), Ob.row Mode.u false (1 : Nat) (List.length T) (RR (iw T) (ih T)) []), ((3031 : Nat), Ob.row Mode.u false (1 : Nat) (List.length T) (MK (ib T)) []), ((4031 : Nat), Ob.row Mode.u false (3 : Nat) (List.length L) (CB L) []), ((6 : Nat), Ob.box [AV.own (1031 : Nat), AV.own (2031 : Nat), AV.own (3031 : Nat)])]))))) (VC.call (10 : Nat) [AV.ag [AV.p false (PV.sl false (1 : Nat) n (TR f)), AV.p false (PV.sl false (1 : Nat) m (RR w h)), AV.p false (PV.sl false (1 : Nat) k (MK r))]] [] (tkR (tkB n f m w h k r)) (tkH (tkN n f m w h k r) f (tkS n f m w h k r)) (VC.call (10 : Nat) [AV.ag [AV.p false (PV.sl false (1 : Nat) n (TR f)), AV.p false (PV.sl false (1 : Nat) (List.length T) (RR (iw T) (ih T))), AV.p false (PV.sl false (1 : Nat) (List.length T) (MK (ib T)))]] [] (tkR (tkB n f (List.length T) (iw T) (ih T) (List.length T) (ib T))) (tkH (tkN n f (List.length T) (iw T) (ih T) (List.length T) (ib T)) f (tkS n f (List.length T) (iw T) (ih T) (List.length T) (ib T))) (VC.split (!tkB n f m w h k r == tkB n f (List.length T) (iw T) (ih T) (List.length T) (ib T)) (VC.doneP (AV.p true (PV.v (Value.bool false)))) (VC.call (11 : Nat) [AV.ag [AV.p false (PV.sl false (1 : Nat) (tkN n f m w h k r) (TR f)), AV.p false (PV.sl false (1 : Nat) (List.length (tkS n f m w h k r)) (RR (wL (tkS n f m w h k r)) (hL (tkS n f m w h k r))))]] [] taR (srH (tkN n f m w h k r) f (List.length (tkS n f m w h k r)) (wL (tkS n f m w h k r)) (hL (tkS n f m w h k r))) (VC.split (!s.toList == (ByteArray.mk #[]).toList) (VC.call (12 : Nat) [AV.ag [AV.p false (PV.sl false (1 : Nat) (tkN n f m w h k r) (TR f)), AV.p false (PV.sl false (1 : Nat) (List.length (tkS n f m w h k r)) (RR (wL (tkS n f m w h k r)) (hL (tkS n f m w h k r))))], AV.p true (PV.v (Value.string s)), AV.p true (PV.v (Value.bool dn))] [] (orR (tkN n f m w h k r) f (List.length (tkS n f m w h k r)) (wL (tkS n f m w h k r)) (hL (tkS n f m w h k r)) s) (orH (tkN n f m w h k r) f (List.length (tkS n f m w h k r)) (wL (tkS n f m w h k r)) (hL (tkS n f m w h k r)) s dn) (VC.call (13 : Nat) [AV.ag [AV.p false (PV.sl false (1 : Nat) n (TR f)), AV.p false (PV.sl false (1 : Nat) (List.length T) (RR (iw T) (ih T))), AV.p false (PV.sl false (1 : Nat) (List.length T) (MK (ib T)))]] [] (AB (padB n f (List.length T) (iw T) (ih T) (List.length T) (ib T))) [] (VC.split (padB n f (List.length T) (iw T) (ih T) (List.length T) (ib T)) (VC.split ((↑(List.length T) : Int) == (↑m : Int)) (VC.call (14 : Nat) [AV.ag [AV.p false (PV.sl false (1 : Nat) n (TR f)), AV.p false (PV.sl false (1 : Nat) (List.length T) (RR (iw T) (ih T))), AV.p false (PV.sl false (1 : Nat) (List.length T) (MK (ib T)))]] [] (AI (if padB n f (List.length T) (iw T) (ih T) (List.length T) (ib T) = true then (↑(cntB (ib T) (List.length T)) : Int) else (-1 : Int))) [] (VC.call (14 : Nat) [AV.ag [AV.p false (PV.sl false (1 : Nat) n (TR f)), AV.p false (PV.sl false (1 : Nat) m (RR w h)), AV.p false (PV.sl false (1 : Nat) k (MK r))]] [] (AI (if padB n f m w h k r = true then (↑(cntB r k) : Int) else (-1 : Int))) [] (VC.split ((if padB n f (List.length T) (iw T) (ih T) (List.length T) (ib T) = true then (↑(cntB (ib T) (List.length T)) : Int) else (-1 : Int)) == if padB n f m w h k r = true then (↑(cntB r k) : Int) else (-1 : Int)) (VC.split (!tkB n f m w h k r) (VC.call (17 : Nat) [AV.p true (PV.v (Value.int IntKind.i64 (↑m : Int)))] [] (AV.own (0 : Nat)) [((0 : Nat), NR false (netL m))] (VC.call (16 : Nat) [AV.p true (PV.v (Value.int IntKind.i64 (2 : Int))), AV.p false (PV.sl false (2 : Nat) (netL m).length (NB (netL m)))] [] (AV.own (0 : Nat)) [((0 : Nat), CR false (trL (nat_lit 2) (netL m)))] (VC.call (8 : Nat) [AV.p false (PV.sl false (3 : Nat) (List.length L) (CB L)), AV.p false (PV.sl false (3 : Nat) (List.length (trL (nat_lit 2) (netL m))) (CB (trL (nat_lit 2) (netL m))))] [] (AB (L == trL (nat_lit 2) (netL m))) [] (VC.doneP (AV.p true (PV.v (Value.bool (L == trL (nat_lit 2) (netL m))))))))) (VC.call (15 : Nat) [AV.ag [AV.p false (PV.sl false (1 : Nat) (tkN n f (List.length T) (iw T) (ih T) (List.length T) (ib T)) (TR f)), AV.p false (PV.sl false (1 : Nat) (List.length (tkS n f (List.length T) (iw T) (ih T) (List.length T) (ib T))) (RR (wL (tkS n f (List.length T) (iw T) (ih T) (List.length T) (ib T))) (hL (tkS n f (List.length T) (iw T) (ih T) (List.length T) (ib T)))))], AV.ag [AV.p false (PV.sl false (1 : Nat) (orN (tkN n f m w h k r) f (List.length (tkS n f m w h k r)) (wL (tkS n f m w h k r)) (hL (tkS n f m w h k r)) s) (TR f)), AV.p false (PV.sl false (1 : Nat) (orM (tkN n f m w h k r) f (List.length (tkS n f m w h k r)) (wL (tkS n f m w h k r)) (hL (tkS n f m w h k r)) s) (RR (wL (orS (tkN n f m w h k r) f (List.length (tkS n f m w h k r)) (wL (tkS n f m w h k r)) (hL (tkS n f m w h k r)) s dn)) (hL (orS (tkN n f m w h k r) f (List.length (tkS n f m w h k r)) (wL (tkS n f m w h k r)) (hL (tkS n f m w h k r)) s dn))))]] [] (AB (sameT (tkN n f (List.length T) (iw T) (ih T) (List.length T) (ib T)) f (orN (tkN n f m w h k r) f (List.length (tkS n f m w h k r)) (wL (tkS n f m w h k r)) (hL (tkS n f m w h k r)) s) f && sameR (List.length (tkS n f (List.length T) (iw T) (ih T) (List.length T) (ib T))) (wL (tkS n f (List.length T) (iw T) (ih T) (List.length T) (ib T))) (hL (tkS n f (List.length T) (iw T) (ih T) (List.length T) (ib T))) (orM (tkN n f m w h k r) f (List.length (tkS n f m w h k r)) (wL (tkS n f m w h k r)) (hL (tkS n f m w h k r)) s) (wL (orS (tkN n f m w h k r) f (List.length (tkS n f m w h k r)) (wL (tkS n f m w h k r)) (hL (tkS n f m w h k r)) s dn)) (hL (orS (tkN n f m w h k r) f (List.length (tkS n f m w h k r)) (wL (tkS n f m w h k r)) (hL (tkS n f m w h k r)) s dn)))) [] (VC.split (sameT (tkN n f (List.length T) (iw T) (ih T) (List.length T) (ib T)) f (orN (tkN n f m w h k r) f (List.length (tkS n f m w h k r)) (wL (tkS n f m w h k r)) (hL (tkS n f m w h k r)) s) f && sameR (List.length (tkS n f (List.length T) (iw T) (ih T) (List.length T) (ib T))) (wL (tkS n f (List.length T) (iw T) (ih T) (List.length T) (ib T))) (hL (tkS n f (List.length T) (iw T) (ih T) (List.length T) (ib T))) (orM (tkN n f m w h k r) f (List.length (tkS n f m w h k r)) (wL (tkS n f m w h k r)) (hL (tkS n f m w h k r)) s) (wL (orS (tkN n f m w h k r) f (List.length (tkS n f m w h k r)) (wL (tkS n f m w h k r)) (hL (tkS n f m w h k r)) s dn)) (hL (orS (tkN n f m w h k r) f (List.length (tkS n f m w h k r)) (wL (tkS n f m w h k r)) (hL (tkS n f m w h k r)) s dn))) (VC.call (17 : Nat) [AV.p true (PV.v (Value.int IntKind.i64 (↑m : Int)))] [] (AV.own (0 : Nat)) [((0 : Nat), NR false (netL m))] (VC.call (16 : Nat) [AV.p true (PV.v (Value.int IntKind.i64 (2 : Int))), AV.p false (PV.sl false (2 : Nat) (netL m).length (NB (netL m)))] [] (AV.own (0 : Nat)) [((0 : Nat), CR false (trL (nat_lit 2) (netL m)))] (VC.call (8 : Nat) [AV.p false (PV.sl false (3 : Nat) (List.length L) (CB L)), AV.p false (PV.sl false (3 : Nat) (List.length (trL (nat_lit 2) (netL m))) (CB (trL (nat_lit 2) (netL m))))] [] (AB (L == trL (nat_lit 2) (netL m))) [] (VC.doneP (AV.p true (PV.v (Value.bool (L == trL (nat_lit 2) (netL m))))))))) (VC.doneP (AV.p true (PV.v (Value.bool false))))))) (VC.doneP (AV.p true (PV.v (Value.bool false))))))) (VC.doneP (AV.p true (PV.v (Value.bool false))))) (VC.doneP (AV.p true (PV.v (Value.bool false))))))) (VC.call (13 : Nat) [AV.ag [AV.p false (PV.sl false (1 : Nat) n (TR f)), AV.p false (PV.sl false (1 : Nat) (List.length T) (RR (iw T) (ih T))), AV.p false (PV.sl false (1 : Nat) (List.length T) (MK (ib T)))]] [] (AB (padB n f (List.length T) (iw T) (ih T) (List.length T) (ib T))) [] (VC.split (padB n f (List.length T) (iw T) (ih T) (List.length T) (ib T)) (VC.split ((↑(List.length T) : Int) == (↑m : Int)) (VC.call (14 : Nat) [AV.ag [AV.p false (PV.sl false (1 : Nat) n (TR f)), AV.p false (PV.sl false (1 : Nat) (List.length T) (RR (iw T) (ih T))), AV.p false (PV.sl false (1 : Nat) (List.length T) (MK (ib T)))]] [] (AI (if padB n f (List.length T) (iw T) (ih T) (List.length T) (ib T) = true then (↑(cntB (ib T) (List.length T)) : Int) else (-1 : Int))) [] (VC.call (14 : Nat) [AV.ag [AV.p false (PV.sl false (1 : Nat) n (TR f)), AV.p false (PV.sl false (1 : Nat) m (RR w h)), AV.p false (PV.sl false (1 : Nat) k (MK r))]] [] (AI (if padB n f m w h k r = true then (↑(cntB r k) : Int) else (-1 : Int))) [] (VC.split ((if padB n f (List.length T) (iw T) (ih T) (List.length T) (ib T) = true then (↑(cntB (ib T) (List.length T)) : Int) else (-1 : Int)) == if padB n f m w h k r = true then (↑(cntB r k) : Int) else (-1 : Int)) (VC.split (!tkB n f m w h k r) (VC.call (17 : Nat) [AV.p true (PV.v (Value.int IntKind.i64 (↑m : Int)))] [] (AV.own (0 : Nat)) [((0 : Nat), NR false (netL m))] (VC.call (16 : Nat) [AV.p true (PV.v (Value.int IntKind.i64 (2 : Int))), AV.p false (PV.sl false (2 : Nat) (netL m).length (NB (netL m)))] [] (AV.own (0 : Nat)) [((0 : Nat), CR false (trL (nat_lit 2) (netL m)))] (VC.call (8 : Nat) [AV.p false (PV.sl false (3 : Nat) (List.length L) (CB L)), AV.p false (PV.sl false (3 : Nat) (List.length (trL (nat_lit 2) (netL m))) (CB (trL (nat_lit 2) (netL m))))] [] (AB (L == trL (nat_lit 2) (netL m))) [] (VC.doneP (AV.p true (PV.v (Value.bool (L == trL (nat_lit 2) (netL m))))))))) (VC.call (15 : Nat) [AV.ag [AV.p false (PV.sl false (1 : Nat) (tkN n f (List.length T) (iw T) (ih T) (List.length T) (ib T)) (TR f)), AV.p false (PV.sl false (1 : Nat) (List.length (tkS n f (List.length T) (iw T) (ih T) (List.length T) (ib T))) (RR (wL (tkS n f (List.length T) (iw T) (ih T) (List.length T) (ib T))) (hL (tkS n f (List.length T) (iw T) (ih T) (List.length T) (ib T)))))], AV.ag [AV.p false (PV.sl false (1 : Nat) (srN (tkN n f m w h k r) f (List.length (tkS n f m w h k r)) (wL (tkS n f m w h k r)) (hL (tkS n f m w h k r))) (TR f)), AV.p false (PV.sl false (1 : Nat) (srM (tkN n f m w h k r) f (List.length (tkS n f m w h k r)) (wL (tkS n f m w h k r)) (hL (tkS n f m w h k r))) (RR (wL (srtA (List.length (tkS n f m w h k r)) (wL (tkS n f m w h k r)) (hL (tkS n f m w h k r)))) (hL (srtA (List.length (tkS n f m w h k r)) (wL (tkS n f m w h k r)) (hL (tkS n f m w h k r))))))]] [] (AB (sameT (tkN n f (List.length T) (iw T) (ih T) (List.length T) (ib T)) f (srN (tkN n f m w h k r) f (List.length (tkS n f m w h k r)) (wL (tkS n f m w h k r)) (hL (tkS n f m w h k r))) f && sameR (List.length (tkS n f (List.length T) (iw T) (ih T) (List.length T) (ib T))) (wL (tkS n f (List.length T) (iw T) (ih T) (List.length T) (ib T))) (hL (tkS n f (List.length T) (iw T) (ih T) (List.length T) (ib T))) (srM (tkN n f m w h k r) f (List.length (tkS n f m w h k r)) (wL (tkS n f m w h k r)) (hL (tkS n f m w h k r))) (wL (srtA (List.length (tkS n f m w h k r)) (wL (tkS n f m w h k r)) (hL (tkS n f m w h k r)))) (hL (srtA (List.length (tkS n f m w h k r)) (wL (tkS n f m w h k r)) (hL (tkS n f m w h k r)))))) [] (VC.split (sameT (tkN n f (List.length T) (iw T) (ih T) (List.length T) (ib T)) f (srN (tkN n f m w h k r) f (List.length (tkS n f m w h k r)) (wL (tkS n f m w h k r)) (hL (tkS n f m w h k r))) f && sameR (List.length (tkS n f (List.length T) (iw T) (ih T) (List.length T) (ib T))) (wL (tkS n f (List.length T) (iw T) (ih T) (List.length T) (ib T))) (hL (tkS n f (List.length T) (iw T) (ih T) (List.length T) (ib T))) (srM (tkN n f m w h k r) f (List.length (tkS n f m w h k r)) (wL (tkS n f m w h k r)) (hL (tkS n f m w h k r))) (wL (srtA (List.length (tkS n f m w h k r)) (wL (tkS n f m w h k r)) (hL (tkS n f m w h k r)))) (hL (srtA (List.length (tkS n f m w h k r)) (wL (tkS n f m w h k r)) (hL (tkS n f m w h k r))))) (VC.call (17 : Nat) [AV.p true (PV.v (Value.int IntKind.i64 (↑m : Int)))] [] (AV.own (0 : Nat)) [((0 : Nat), NR false (netL m))] (VC.call (16 : Nat) [AV.p true (PV.v (Value.int IntKind.i64 (2 : Int))), AV.p false (PV.sl false (2 : Nat) (netL m).length (NB (netL m)))] [] (AV.own (0 : Nat)) [((0 : Nat), CR false (trL (nat_lit 2) (netL m)))] (VC.call (8 : Nat) [AV.p false (PV.sl false (3 : Nat) (List.length L) (CB L)), AV.p false (PV.sl false (3 : Nat) (List.length (trL (nat_lit 2) (netL m))) (CB (trL (nat_lit 2) (netL m))))] [] (AB (L == trL (nat_lit 2) (netL m))) [] (VC.doneP (AV.p true (PV.v (Value.bool (L == trL (nat_lit 2) (netL m))))))))) (VC.doneP (AV.p true (PV.v (Value.bool false))))))) (VC.doneP (AV.p true (PV.v (Value.bool false))))))) (VC.doneP (AV.p true (PV.v (Value.bool false))))) (VC.doneP (AV.p true (PV.v (Value.bool false))))))))))) := by intros; kernel_rfl
theorem LL_bound {S : LL} {n : Nat} (h : ∀ x, x ∈ S → x.length ≤ n) (i : Nat) : wL S i ≤ n := by
  simp only [wL, List.getD_eq_getElem?_getD]
  cases e : S[i]? with
  | none => simp
  | some x => exact h x (List.mem_of_getElem? e)
theorem c_lSP (nn : Bool) (n : Nat) (f : Nat → Int) (hb : Bytes f) : PRet Tryd.prog G0 3 [.p false (.sl nn 1 n (PB f))] (AB true) := by
  refine PRet.by chk3 (ev_lSP nn n f) ?_
  simp only [VC.holds_split, VC.holds_need, VC.holds_doneP, VC.holds_done, VC.holds_either, VC.holds_call, VC.holds_callE, VC.holds_lend, VC.holds_stop, VC.holds_fail, decide_eq_true_eq, decide_eq_false_iff_not]
  refine ⟨fun _ => by simp, fun _ => ⟨c_dSP _ _ _ hb, fun y hy => ?_⟩⟩
  obtain ⟨⟨N, F, m, w, h, k, r, p⟩, s, dn⟩ := y
  obtain ⟨pd, hv⟩ := hy
  simp only [] at pd hv ⊢
  have sp : SpOk N F m w h k r := ⟨pd, hv⟩
  have hn := pd.ta.hn
  -- what was sorted
  have hT : ∀ e : spB N F m w h k r s = true, padB N F m w h k r = true := fun e => by
    simp only [spB, Bool.and_eq_true] at e; exact e.1
  have okx : PdOk (spN N F m w h k r s) F (spT N F m w h k r s dn).length (iw (spT N F m w h k r s dn)) (spT N F m w h k r s dn).length := by
    cases e : spB N F m w h k r s with
    | false => simp only [spN, spT, e]; exact ⟨⟨by simp, fun i hi => by simp at hi, by simp, fun i hi => by simp at hi⟩, by simp⟩
    | true =>
      have hp := hT e
      obtain ⟨_, h2, rfl, _, _⟩ := pad_parts hp
      have hperm := srtP_perm (colT F s N) dn (itL k w h r)
      simp only [spN, spT, e, if_true]
      have hl : (srtP (colT F s N) dn (itL k w h r)).length = k := by rw [srtP_len, itL_len]
      refine ⟨⟨hn, pd.ta.hf, by omega, fun i hi => ?_⟩, by omega⟩
      have h3 := (pad_iff.1 hp).2.2 ((srtP (colT F s N) dn (itL k w h r)).getD i (false, [])) (hperm.mem_iff.1 (by rw [List.getD_eq_getElem?_getD, List.getElem?_eq_getElem hi]; exact List.getElem_mem _))
      simp only [iw, h3.1]; exact hn
  have hLl : (spL N F m w h k r s).length ≤ 1000000000 := by
    cases e : spB N F m w h k r s with
    | false => simp [spL, e]
    | true =>
      have h2 := (pad_parts (hT e)).2.1
      have := netL_len h2
      simp only [spL, e, if_true, trL_len]; omega
  have sT := sameT_rfl (spN N F m w h k r s) F
  have sR := sameR_rfl (spT N F m w h k r s dn).length (iw (spT N F m w h k r s dn)) (ih (spT N F m w h k r s dn))
  have sM : sameM (spT N F m w h k r s dn).length (ib (spT N F m w h k r s dn)) (spT N F m w h k r s dn).length (ib (spT N F m w h k r s dn)) = true := by
    simp only [sameM, decide_true, Bool.true_and]
    exact allB_iff.2 fun i hi => by simp
  refine ⟨c_imSK _ _ _ _ _ _ _ _ _ sp, c_spSP _ _ _ _ _ _ _ _ _ pd, c_sPd _ _ _ _ _ _ _ _ _ _ _ _ _ _ okx, fun e => ?_, fun _ => ⟨c_sTr _ _ _ _ hLl, fun e => ?_, fun _ => ⟨fun e => ?_, fun _ => ⟨fun e => ?_, fun e => ?_⟩⟩⟩⟩
  · simp [sT, sR, sM] at e
  · simp at e
  · simp at e
  · have e0 : spB N F m w h k r s = false := by simpa using e
    refine ⟨fun _ => ⟨fun _ => ⟨c_alive, ?_⟩, fun e => ?_⟩, fun e => ?_⟩
    · simp
    · simp [spL, e0] at e
    · simp [spN, e0] at e
  · have e0 : spB N F m w h k r s = true := by simpa using e
    have hp := hT e0
    obtain ⟨hnm, h256, rfl, _, _⟩ := pad_parts hp
    have hN : spN N F k w h k r s = N := by simp [spN, e0]
    have hTT : spT N F k w h k r s dn = srtP (colT F s N) dn (itL k w h r) := by simp [spT, e0]
    have hLL : spL N F k w h k r s = trL 2 (netL k) := by simp [spL, e0]
    rw [hN, hTT] at okx
    simp only [hN, hTT, hLL] at hLl ⊢
    have hm := hv hp
    have hperm := srtP_perm (colT F s N) dn (itL k w h r)
    have hl : (srtP (colT F s N) dn (itL k w h r)).length = k := by rw [srtP_len, itL_len]
    have hmk : ∀ q, q + 1 < (srtP (colT F s N) dn (itL k w h r)).length → ib (srtP (colT F s N) dn (itL k w h r)) (q + 1) = true → ib (srtP (colT F s N) dn (itL k w h r)) q = true := fun q h1 h2 => srtP_marks h1 h2
    have hpT := pad_perm hperm hp
    have hcT := cnt_perm hperm
    have hre := reL_srt (colT F s N) dn (itL k w h r)
    generalize hTdef : srtP (colT F s N) dn (itL k w h r) = T at *
    have htk : tkB N F T.length (iw T) (ih T) T.length (ib T) = tkB N F k w h k r := by simp only [tkB, hp, hpT, hcT]
    refine loop_by (st_lP N F k w h k r s dn T (trL 2 (netL k))) (fun q => 1 ≤ q ∧ q ≤ k + 1) (fun q => k + 1 - q) 1 [] [] [] ⟨by omega, by omega⟩ ?_ (evr_lP N F k w h k r s dn T (trL 2 (netL k))) fun q hq => ?_
    · simp [st_lP, hbs, St.lowers, St.lower, stLe, leEnv, leObs, obLe, injB, pinC, AV.leC, AV.leCs, PV.leC, PV.Le_v, St.get, St.obj, look, rho, isNew, keptC, renH, Mode.ok, Mode.isZ, PV.isVal, PV.isNilSl, List.all_nil, List.all_cons, List.any_nil, List.any_cons, List.map_nil, List.map_cons, PV.Le_self, AV.leCs]
    · obtain ⟨hq1, hq2⟩ := hq
      have e1 : IntKind.i64.wrap ((q : Int) + 1) = ((q + 1 : Nat) : Int) := wrap_in (by omega) (by omega)
      have e2 : IntKind.i64.wrap ((q : Int) - 1) = ((q - 1 : Nat) : Int) := (wrap_in (by omega) (by omega)).trans (by omega)
      simp only [VC.holds_split, VC.holds_need, VC.holds_doneP, VC.holds_done, VC.holds_either, VC.holds_call, VC.holds_callE, VC.holds_lend, VC.holds_stop, VC.holds_fail, decide_eq_true_eq, decide_eq_false_iff_not, Int.toNat_natCast, e1, e2]
      refine ⟨fun h1 => ⟨by omega, by omega, fun h2 => ⟨by omega, by omega, fun h3 => ?_, fun h3 => Again.mk (q + 1) [] [] [] ⟨by omega, by omega⟩ (by omega) ?_⟩, fun h2 => Again.mk (q + 1) [] [] [] ⟨by omega, by omega⟩ (by omega) ?_⟩, fun h1 => ?_⟩
      · have := hmk (q - 1) (by omega) (by rw [show q - 1 + 1 = q by omega]; exact h2)
        rw [this] at h3; simp at h3
      · simp [st_lP, hbs, St.lowers, St.lower, stLe, leEnv, leObs, obLe, injB, pinC, AV.leC, AV.leCs, PV.leC, PV.Le_v, St.get, St.obj, look, rho, isNew, keptC, renH, Mode.ok, Mode.isZ, PV.isVal, PV.isNilSl, List.all_nil, List.all_cons, List.any_nil, List.any_cons, List.map_nil, List.map_cons, PV.Le_self, AV.leCs]
      · simp [st_lP, hbs, St.lowers, St.lower, stLe, leEnv, leObs, obLe, injB, pinC, AV.leC, AV.leCs, PV.leC, PV.Le_v, St.get, St.obj, look, rho, isNew, keptC, renH, Mode.ok, Mode.isZ, PV.isVal, PV.isNilSl, List.all_nil, List.all_cons, List.any_nil, List.any_cons, List.map_nil, List.map_cons, PV.Le_self, AV.leCs]
      · have okp : PdOk N F k w k := pd
        -- the real rows
        have hS1 : tkB N F k w h k r = true → tableB N F (reL (itL k w h r)).length (wL (reL (itL k w h r))) (hL (reL (itL k w h r))) = true := fun e => by
          simp only [tkB, Bool.and_eq_true, decide_eq_true_eq] at e
          exact table_re hp e.2 rfl
        have bnd : ∀ x, x ∈ reL (itL k w h r) → x.length ≤ N := fun x hx => by
          have := ((pad_iff.1 hp).2.2 _ (reL_mem hx)).1
          simp only [] at this; omega
        have hS2 : reL (itL T.length (iw T) (ih T) (ib T)) = srtL (ltQ (colT F s N) dn) (reL (itL k w h r)) := by rw [itL_self]; exact hre
        have taS : TaOk (tkN N F k w h k r) F (tkS N F k w h k r).length (wL (tkS N F k w h k r)) := by
          cases e : tkB N F k w h k r with
          | false => simp only [tkN, tkS, e]; exact ⟨by simp, fun i hi => by simp at hi, by simp, fun i hi => by simp at hi⟩
          | true =>
            simp only [tkN, tkS, e, if_true]
            have : (reL (itL k w h r)).length = cntB r k := reL_len k
            have := cntB_le r k
            exact ⟨hn, okp.ta.hf, by omega, fun i hi => Nat.le_trans (LL_bound bnd i) hn⟩
        have taU : TaOk (tkN N F T.length (iw T) (ih T) T.length (ib T)) F (tkS N F T.length (iw T) (ih T) T.length (ib T)).length (wL (tkS N F T.length (iw T) (ih T) T.length (ib T))) := by
          cases e : tkB N F k w h k r with
          | false => simp only [tkN, tkS, htk, e]; exact ⟨by simp, fun i hi => by simp at hi, by simp, fun i hi => by simp at hi⟩
          | true =>
            simp only [tkN, tkS, htk, e, if_true, hS2]
            have hsl : (srtL (ltQ (colT F s N) dn) (reL (itL k w h r))).length = cntB r k := by rw [(srtL_perm' _ _).length_eq]; exact reL_len k
            have := cntB_le r k
            exact ⟨hn, okp.ta.hf, by omega, fun i hi => Nat.le_trans (LL_bound (fun x hx => bnd x ((srtL_perm' _ _).mem_iff.1 hx)) i) hn⟩
        refine ⟨c_tkR _ _ _ _ _ _ _ okp, c_tkR _ _ _ _ _ _ _ okx, fun e => ?_, fun _ => ⟨c_imSR _ _ _ _ _ taS, fun e3 => ⟨c_imOR _ _ _ _ _ _ _ taS, ?_⟩, fun e3 => ?_⟩⟩
        · rw [htk] at e; simp at e
        · have hem : emB s = false := by simpa [emB] using e3
          have hh : hasT F s N = true := by simpa [spB, hem, hp] using e0
          have hc0 : 0 ≤ colT F s N := by rw [← colT_has] at hh; simpa using hh
          refine ⟨c_pvK _ _ _ _ _ _ _ okx, fun _ => ⟨fun _ => ⟨c_rlR _ _ _ _ _ _ _ okx, c_rlR _ _ _ _ _ _ _ okp, fun _ => ⟨fun _ => ⟨c_niN _ h256, c_ptP _ _ _ ⟨Nat.le_refl _, netL_len h256⟩, c_sTr _ _ _ _ hLl, by simp⟩, fun e4 => ⟨c_sTb _ _ _ _ _ _ _ _ _ _ taU.hn taU.hm taU.hw, fun _ => ⟨c_niN _ h256, c_ptP _ _ _ ⟨Nat.le_refl _, netL_len h256⟩, c_sTr _ _ _ _ hLl, by simp⟩, fun e5 => ?_⟩⟩, fun e4 => ?_⟩, fun e4 => ?_⟩, fun e4 => ?_⟩
          · have hk1 : tkB N F k w h k r = true := by simpa using e4
            have htab := hS1 hk1
            have hor : orB N F (reL (itL k w h r)).length (wL (reL (itL k w h r))) (hL (reL (itL k w h r))) s = true := by simp only [orB, htab, decide_eq_true hc0, Bool.and_self]
            have hlen := (srtL_perm' (ltO (colT F s N).toNat dn) (reL (itL k w h r))).length_eq
            simp only [tkN, tkS, htk, hk1, if_true, orN, orM, orS, hor, hS2, ltQ_yes hc0, srtO, tabL_of rfl, hlen] at e5
            rw [sameT_rfl, sameR_rfl] at e5
            simp at e5
          · simp only [hp, hpT, hcT, if_true] at e4; simp at e4
          · simp only [hl] at e4; simp at e4
          · rw [hpT] at e4; cases e4
        · have hem : emB s = true := by simpa [emB] using e3
          have hc0 := colT_emp hnm hem
          refine ⟨c_pvK _ _ _ _ _ _ _ okx, fun _ => ⟨fun _ => ⟨c_rlR _ _ _ _ _ _ _ okx, c_rlR _ _ _ _ _ _ _ okp, fun _ => ⟨fun _ => ⟨c_niN _ h256, c_ptP _ _ _ ⟨Nat.le_refl _, netL_len h256⟩, c_sTr _ _ _ _ hLl, by simp⟩, fun e4 => ⟨c_sTb _ _ _ _ _ _ _ _ _ _ taU.hn taU.hm taU.hw, fun _ => ⟨c_niN _ h256, c_ptP _ _ _ ⟨Nat.le_refl _, netL_len h256⟩, c_sTr _ _ _ _ hLl, by simp⟩, fun e5 => ?_⟩⟩, fun e4 => ?_⟩, fun e4 => ?_⟩, fun e4 => ?_⟩
          · have hk1 : tkB N F k w h k r = true := by simpa using e4
            have htab := hS1 hk1
            have hlen := (srtL_perm' ltL (reL (itL k w h r))).length_eq
            simp only [tkN, tkS, htk, hk1, if_true, srN, srM, htab, hS2, ltQ_no hc0, srtA, tabL_of rfl, hlen] at e5
            rw [sameT_rfl, sameR_rfl] at e5
            simp at e5
          · simp only [hp, hpT, hcT, if_true] at e4; simp at e4
          · simp only [hl] at e4; simp at e4
          · rw [hpT] at e4; cases e4
theorem law_FnSortPadded (xs : List AV) (h : Args Tryd.prog Tryd.f3.params.toList xs) : PRet Tryd.prog G0 3 xs (AB true) := by
  have hp : Tryd.f3.params.toList = [22] := by kernel_rfl
  rw [hp] at h
  obtain ⟨nn, n, f, c, cs, hb, h2, rfl, hle⟩ := args_bytes h
  cases h2
  exact (c_lSP nn n f hb).args ⟨hle, trivial⟩
end Go.Gw
