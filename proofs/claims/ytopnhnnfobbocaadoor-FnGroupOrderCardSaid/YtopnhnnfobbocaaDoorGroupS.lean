/- Rows grouped, by the model; with no condition. -/
import Derived.Test.YtopnhnnfobbocaaDoorGroup
import Derived.KernelRfl
namespace Go.Gw
open Go Go.Proofs
set_option linter.unusedSimpArgs false
set_option linter.unusedVariables false
set_option maxRecDepth 100000
def ir42_L1 : Ir :=
  (.seq
  (.seq
  (.dreg [52, 53, 54, 55, 56, 57, 58, 59, 60, 61, 62, 63, 64, 65, 66, 67, 68, 69, 70, 71, 72, 73] [0, 0, 2, 6, 15, 31, 63, 127, 63, 511, 1023, 2047, 4095, 63, 8255, 63, 57407, 122943, 63, 516159, 1040447, 2097151, 4194303] [(2, 1054), (7, 1059), (10, 1062), (12, 1064), (14, 1066), (17, 1069), (20, 1072)] [o 52 (.mov (tt 12)),
    o 53 (.fadr 1 (tt 10)),
    o 54 (.load false 1 (tt 53)),
    o 55 (.len (tt 54)),
    o 56 (.bin .lss (tt 52) (tt 55)),
    o 57 (.mov (tt 56)),
    og 58 57 true (.fadr 1 (tt 10)),
    og 59 57 true (.load false 1 (tt 58)),
    og 60 57 true (.mov (tt 12)),
    og 61 57 true (.idx 1 (tt 59) (tt 60)),
    og 62 57 true (.load false 1 (tt 61)),
    og 63 57 true (.idx 1 (tt 62) (ci 0)),
    og 64 57 true (.load false 1 (tt 63)),
    og 65 57 true (.fadr 1 (tt 3)),
    og 66 57 true (.load false 1 (tt 65)),
    og 67 57 true (.mov (tt 11)),
    og 68 57 true (.idx 1 (tt 66) (tt 67)),
    og 69 57 true (.load false 1 (tt 68)),
    og 70 57 true (.mov (tt 8)),
    og 71 57 true (.idx 1 (tt 69) (tt 70)),
    og 72 57 true (.load false 1 (tt 71)),
    og 73 57 true (.bin .lss (tt 64) (tt 72)),
    o 74 (.pick (tt 57) (tt 73) (cb false))])
  (.cond (tt 74)
   .skip
   (.exit 2)))
  (.block 3
   (.reg [75, 76] [o 75 (.mov (tt 12)),
     o 76 (.bin .add (tt 75) (ci 1)),
     o 12 (.mov (tt 76))])))
def ir42_C1 : Ir :=
  (.reg [100, 101, 102, 103, 104, 105] [o 100 (.mkSl 1 0 [(.slice none 0 0)] []),
     o 101 (.fadr 1 (tt 10)),
     o 102 (.load false 1 (tt 101)),
     o 103 (.mov (tt 12)),
     o 104 (.slc 1 (tt 102) (some (tt 103)) none),
     o 105 (.app 1 24 false (tt 100) (tt 104)),
     o 13 (.mov (tt 105))])
def ir42_E1 : Ir :=
  (.dreg [106, 107, 108, 109, 110, 111, 112, 113, 114, 115, 116, 117, 118, 119, 120, 121, 122, 123] [0, 1, 0, 7, 0, 16, 0, 112, 240, 0, 1008, 2032, 4080, 8176, 16383, 0, 65535, 131071, 262143] [(1, 1107), (3, 109), (5, 1111), (8, 1114), (11, 1117), (12, 118), (13, 119), (14, 120), (16, 122)] [o 106 (.fadr 1 (tt 10)),
     o 107 (.load false 1 (tt 106)),
     o 108 (.mov (tt 12)),
     o 109 (.slc 1 (tt 107) none (some (tt 108))),
     o 110 (.fadr 1 (tt 3)),
     o 111 (.load false 1 (tt 110)),
     o 112 (.mov (tt 11)),
     o 113 (.idx 1 (tt 111) (tt 112)),
     o 114 (.load false 1 (tt 113)),
     o 115 (.mov (tt 8)),
     o 116 (.idx 1 (tt 114) (tt 115)),
     o 117 (.load false 1 (tt 116)),
     o 118 (.mkSl 1 3 [(.int .i64 0)] [(0, (tt 117)), (1, (ci 0)), (2, (ci 0))]),
     o 119 (.mkSl 1 1 [(.slice none 0 0)] [(0, (tt 118))]),
     o 120 (.app 1 24 false (tt 109) (tt 119)),
     o 121 (.mov (tt 13)),
     o 122 (.app 1 24 false (tt 120) (tt 121)),
     o 123 (.fadr 1 (tt 10)),
     on (.store 1 (tt 123) (tt 122))])
def ir42_C2 : Ir :=
  (.dreg [124, 125, 126, 127, 128, 129, 130, 131, 132, 133, 134, 135, 136, 137] [0, 1, 0, 7, 15, 0, 32, 0, 224, 480, 992, 2016, 4064, 8191, 16383] [(1, 1125), (4, 1128), (6, 1130), (9, 1133), (11, 1135)] [o 124 (.fadr 1 (tt 10)),
    o 125 (.load false 1 (tt 124)),
    o 126 (.mov (tt 12)),
    o 127 (.idx 1 (tt 125) (tt 126)),
    o 128 (.load false 1 (tt 127)),
    o 129 (.fadr 1 (tt 10)),
    o 130 (.load false 1 (tt 129)),
    o 131 (.mov (tt 12)),
    o 132 (.idx 1 (tt 130) (tt 131)),
    o 133 (.load false 1 (tt 132)),
    o 134 (.idx 1 (tt 133) (ci 1)),
    o 135 (.load false 1 (tt 134)),
    o 136 (.bin .add (tt 135) (ci 1)),
    o 137 (.idx 1 (tt 128) (ci 1)),
    on (.store 1 (tt 137) (tt 136))])
def ir42_C3 : Ir :=
  (.dreg [138, 139, 140, 141, 142, 143, 144, 145, 146, 147, 148, 149, 150, 151, 152, 153, 154, 155, 156, 157, 158, 159] [0, 1, 0, 7, 15, 0, 32, 0, 224, 480, 992, 2016, 0, 4096, 0, 28672, 61440, 0, 258048, 520192, 1048544, 2097151, 4194303] [(1, 1139), (4, 1142), (6, 1144), (9, 1147), (11, 1149), (13, 1151), (16, 1154), (19, 1157)] [o 138 (.fadr 1 (tt 10)),
    o 139 (.load false 1 (tt 138)),
    o 140 (.mov (tt 12)),
    o 141 (.idx 1 (tt 139) (tt 140)),
    o 142 (.load false 1 (tt 141)),
    o 143 (.fadr 1 (tt 10)),
    o 144 (.load false 1 (tt 143)),
    o 145 (.mov (tt 12)),
    o 146 (.idx 1 (tt 144) (tt 145)),
    o 147 (.load false 1 (tt 146)),
    o 148 (.idx 1 (tt 147) (ci 2)),
    o 149 (.load false 1 (tt 148)),
    o 150 (.fadr 1 (tt 3)),
    o 151 (.load false 1 (tt 150)),
    o 152 (.mov (tt 11)),
    o 153 (.idx 1 (tt 151) (tt 152)),
    o 154 (.load false 1 (tt 153)),
    o 155 (.mov (tt 9)),
    o 156 (.idx 1 (tt 154) (tt 155)),
    o 157 (.load false 1 (tt 156)),
    o 158 (.bin .add (tt 149) (tt 157)),
    o 159 (.idx 1 (tt 142) (ci 2)),
    on (.store 1 (tt 159) (tt 158))])
def ir42_T2 : Ir :=
  (.seq
  (.seq
  (.dreg [77, 78, 79, 80, 81, 82, 83, 84, 85, 86, 87, 88, 89, 90, 91, 92, 93, 94, 95, 96, 97, 98] [0, 0, 2, 6, 15, 31, 63, 127, 63, 511, 1023, 2047, 4095, 63, 8255, 63, 57407, 122943, 63, 516159, 1040447, 2097151, 4194303] [(2, 1079), (7, 1084), (10, 1087), (12, 1089), (14, 1091), (17, 1094), (20, 1097)] [o 77 (.mov (tt 12)),
    o 78 (.fadr 1 (tt 10)),
    o 79 (.load false 1 (tt 78)),
    o 80 (.len (tt 79)),
    o 81 (.bin .eql (tt 77) (tt 80)),
    o 82 (.mov (tt 81)),
    og 83 82 false (.fadr 1 (tt 10)),
    og 84 82 false (.load false 1 (tt 83)),
    og 85 82 false (.mov (tt 12)),
    og 86 82 false (.idx 1 (tt 84) (tt 85)),
    og 87 82 false (.load false 1 (tt 86)),
    og 88 82 false (.idx 1 (tt 87) (ci 0)),
    og 89 82 false (.load false 1 (tt 88)),
    og 90 82 false (.fadr 1 (tt 3)),
    og 91 82 false (.load false 1 (tt 90)),
    og 92 82 false (.mov (tt 11)),
    og 93 82 false (.idx 1 (tt 91) (tt 92)),
    og 94 82 false (.load false 1 (tt 93)),
    og 95 82 false (.mov (tt 8)),
    og 96 82 false (.idx 1 (tt 94) (tt 95)),
    og 97 82 false (.load false 1 (tt 96)),
    og 98 82 false (.bin .neq (tt 89) (tt 97)),
    o 99 (.pick (tt 82) (cb true) (tt 98))])
  (.cond (tt 99)
   (.seq
   ir42_C1
   ir42_E1)
   .skip))
  (.seq
  ir42_C2
  ir42_C3))
def ir42_T3 : Ir :=
  (.reg [50, 51] [o 50 (.mov (tt 11)),
    o 51 (.bin .add (tt 50) (ci 1)),
    o 11 (.mov (tt 51))])
def ir42_L4 : Ir :=
  (.seq
  (.seq
  (.reg [45, 46, 47, 48] [o 45 (.mov (tt 11)),
    o 46 (.fadr 1 (tt 3)),
    o 47 (.load false 1 (tt 46)),
    o 48 (.len (tt 47)),
    o 49 (.bin .lss (tt 45) (tt 48))])
  (.cond (tt 49)
   .skip
   (.exit 0)))
  (.seq
  (.block 1
   (.seq
   (.reg [] [o 12 (.mov (ci 0))])
   (.seq
   (.block 2
    (.loop ir42_L1))
   ir42_T2)))
  ir42_T3))
def ir42_T5 : Ir :=
  (.seq
  (.seq
  (.reg [160, 161] [o 160 (.load true 2 (tt 10)),
    o 161 (.call 33 [(tt 160)]),
    o 162 (.un .not (tt 161))])
  (.cond (tt 162)
   (.seq
   (.reg [163] [o 163 (.build [(.slice none 0 0), (.slice none 0 0)] []),
     on (.store 2 (tt 6) (tt 163)),
     o 7 (.mov (cb false))])
   .ret)
   .skip))
  (.seq
  (.reg [164] [o 164 (.load true 2 (tt 10)),
    on (.store 2 (tt 6) (tt 164)),
    o 7 (.mov (cb true))])
  .ret))
def ir42 : Ir :=
  (.seq
  (.reg [] [o 3 (.box 2 (tt 0)),
    o 6 (.alloc [(.slice none 0 0), (.slice none 0 0)]),
    o 7 (.mov (cb false))])
  (.seq
  (.reg [14, 15] [o 14 (.load true 2 (tt 3)),
    o 15 (.call 109 [(tt 14)]),
    on (.store 2 (tt 3) (tt 15))])
  (.seq
  (.seq
  (.reg [16, 17, 18, 19, 20, 21, 22, 23, 24, 25, 26, 27, 28, 29, 30, 31] [o 16 (.load true 2 (tt 3)),
    o 17 (.call 33 [(tt 16)]),
    o 18 (.un .not (tt 17)),
    o 19 (.mov (tt 18)),
    og 20 19 false (.fadr 0 (tt 3)),
    og 21 19 false (.load false 1 (tt 20)),
    og 22 19 false (.mov (tt 1)),
    og 23 19 false (.call 110 [(tt 21), (tt 22)]),
    og 24 19 false (.bin .lss (tt 23) (ci 0)),
    o 25 (.pick (tt 19) (cb true) (tt 24)),
    o 26 (.mov (tt 25)),
    og 27 26 false (.fadr 0 (tt 3)),
    og 28 26 false (.load false 1 (tt 27)),
    og 29 26 false (.mov (tt 2)),
    og 30 26 false (.call 110 [(tt 28), (tt 29)]),
    og 31 26 false (.bin .lss (tt 30) (ci 0)),
    o 32 (.pick (tt 26) (cb true) (tt 31))])
  (.cond (tt 32)
   (.seq
   (.reg [33] [o 33 (.build [(.slice none 0 0), (.slice none 0 0)] []),
     on (.store 2 (tt 6) (tt 33)),
     o 7 (.mov (cb false))])
   .ret)
   .skip))
  (.seq
  (.reg [34, 35, 36, 37] [o 34 (.fadr 0 (tt 3)),
    o 35 (.load false 1 (tt 34)),
    o 36 (.mov (tt 1)),
    o 37 (.call 110 [(tt 35), (tt 36)]),
    o 8 (.mov (tt 37))])
  (.seq
  (.reg [38, 39, 40, 41] [o 38 (.fadr 0 (tt 3)),
    o 39 (.load false 1 (tt 38)),
    o 40 (.mov (tt 2)),
    o 41 (.call 110 [(tt 39), (tt 40)]),
    o 9 (.mov (tt 41))])
  (.seq
  (.reg [42, 43, 44] [o 42 (.mov (tt 1)),
    o 43 (.mkSl 1 3 [(.string ⟨#[]⟩)] [(0, (tt 42)), (1, (.const (.string ⟨#[99, 111, 117, 110, 116]⟩))), (2, (.const (.string ⟨#[116, 111, 116, 97, 108]⟩)))]),
    o 44 (.build [(.slice none 0 0), (.slice none 0 0)] [(0, 1, (tt 43))]),
    o 10 (.alloc [(.slice none 0 0), (.slice none 0 0)]),
    on (.store 2 (tt 10) (tt 44))])
  (.seq
  (.seq
  (.reg [] [o 11 (.mov (ci 0))])
  (.block 0
   (.loop ir42_L4)))
  ir42_T5)))))))
def keep42 : List Nat := [0, 1, 2, 3, 6, 7, 8, 9, 10, 11, 12, 13, 32, 49, 74, 99, 162]
def res42 : List RI := [.cell true 2 6, .tmp 7]
theorem chk42 : chk Tryd.prog 42 3 keep42 = some (ir42, res42) := by kernel_rfl

theorem ev_spG : ∀ (n : Nat) (f : Nat → ByteArray) (m : Nat) (w : Nat → Nat) (h : Nat → Nat → Int) (s1 s2 : ByteArray), ev G0 res42 [] (3000 : Nat) (Or.call [] taR (taH n f m w h) (Or.call [] (AB (tableB n f m w h)) [] (Or.nil.lit.lit.lit.lit.lit.lit.lit.lit.lit.lit.lit.lit.split (Or.call [] (AI (colT f s1 n)) [] (Or.nil.lit.lit.lit.lit.lit.lit.split (Or.call [] (AI (colT f s2 n)) [] (Or.nil.split (Or.call [] (AI (colT f s1 n)) [] (Or.call [] (AI (colT f s2 n)) [] Or.nil))).lit.lit).lit.lit.lit).lit.lit).lit.lit.lit))) [Item.ir ir42] (start [TA false false n f m w h, AT s1, AT s2] []) = VC.call (109 : Nat) [AV.ag [AV.p false (PV.sl false (1 : Nat) n fun (i x : Nat) => PT (f i)), AV.p false (PV.sl false (1 : Nat) m (RR w h))]] [] taR (taH n f m w h) (VC.call (33 : Nat) [AV.ag [AV.p false (PV.sl false (1 : Nat) n (TR f)), AV.p false (PV.sl false (1 : Nat) m (RR w h))]] [] (AB (tableB n f m w h)) [] (VC.split (!tableB n f m w h) (VC.done (St.mk [((0 : Nat), AV.ag [AV.p false (PV.sl false (1 : Nat) n fun (i x : Nat) => PT (f i)), AV.p false (PV.sl false (1 : Nat) m (RR w h))]), ((1 : Nat), AV.p true (PV.v (Value.string s1))), ((2 : Nat), AV.p true (PV.v (Value.string s2))), ((3 : Nat), AV.adr (3 : Nat) (0 : Nat)), ((6 : Nat), AV.adr (6 : Nat) (0 : Nat)), ((7 : Nat), AV.p true (PV.v (Value.bool false))), ((32 : Nat), AV.p true (PV.v (Value.bool true)))] [((3 : Nat), Ob.box [AV.own (1015 : Nat), AV.own (2015 : Nat)]), ((6 : Nat), Ob.box [AV.p true (PV.v (Value.slice none (0 : Nat) (0 : Nat))), AV.p true (PV.v (Value.slice none (0 : Nat) (0 : Nat)))]), ((1015 : Nat), Ob.row Mode.u false (1 : Nat) n (TR f) []), ((2015 : Nat), Ob.row Mode.u false (1 : Nat) m (RR w h) [])])) (VC.call (110 : Nat) [AV.p false (PV.sl false (1 : Nat) n (TR f)), AV.p true (PV.v (Value.string s1))] [] (AI (colT f s1 n)) [] (VC.split (decide (colT f s1 n < (0 : Int))) (VC.done (St.mk [((0 : Nat), AV.ag [AV.p false (PV.sl false (1 : Nat) n fun (i x : Nat) => PT (f i)), AV.p false (PV.sl false (1 : Nat) m (RR w h))]), ((1 : Nat), AV.p true (PV.v (Value.string s1))), ((2 : Nat), AV.p true (PV.v (Value.string s2))), ((3 : Nat), AV.adr (3 : Nat) (0 : Nat)), ((6 : Nat), AV.adr (6 : Nat) (0 : Nat)), ((7 : Nat), AV.p true (PV.v (Value.bool false))), ((32 : Nat), AV.p true (PV.v (Value.bool true)))] [((3 : Nat), Ob.box [AV.own (1015 : Nat), AV.own (2015 : Nat)]), ((6 : Nat), Ob.box [AV.p true (PV.v (Value.slice none (0 : Nat) (0 : Nat))), AV.p true (PV.v (Value.slice none (0 : Nat) (0 : Nat)))]), ((1015 : Nat), Ob.row Mode.u false (1 : Nat) n (TR f) []), ((2015 : Nat), Ob.row Mode.u false (1 : Nat) m (RR w h) [])])) (VC.call (110 : Nat) [AV.p false (PV.sl false (1 : Nat) n (TR f)), AV.p true (PV.v (Value.string s2))] [] (AI (colT f s2 n)) [] (VC.split (decide (colT f s2 n < (0 : Int))) (VC.done (St.mk [((0 : Nat), AV.ag [AV.p false (PV.sl false (1 : Nat) n fun (i x : Nat) => PT (f i)), AV.p false (PV.sl false (1 : Nat) m (RR w h))]), ((1 : Nat), AV.p true (PV.v (Value.string s1))), ((2 : Nat), AV.p true (PV.v (Value.string s2))), ((3 : Nat), AV.adr (3 : Nat) (0 : Nat)), ((6 : Nat), AV.adr (6 : Nat) (0 : Nat)), ((7 : Nat), AV.p true (PV.v (Value.bool false))), ((32 : Nat), AV.p true (PV.v (Value.bool (decide (colT f s2 n < (0 : Int))))))] [((3 : Nat), Ob.box [AV.own (1015 : Nat), AV.own (2015 : Nat)]), ((6 : Nat), Ob.box [AV.p true (PV.v (Value.slice none (0 : Nat) (0 : Nat))), AV.p true (PV.v (Value.slice none (0 : Nat) (0 : Nat)))]), ((1015 : Nat), Ob.row Mode.u false (1 : Nat) n (TR f) []), ((2015 : Nat), Ob.row Mode.u false (1 : Nat) m (RR w h) [])])) (VC.call (110 : Nat) [AV.p false (PV.sl false (1 : Nat) n (TR f)), AV.p true (PV.v (Value.string s1))] [] (AI (colT f s1 n)) [] (VC.call (110 : Nat) [AV.p false (PV.sl false (1 : Nat) n (TR f)), AV.p true (PV.v (Value.string s2))] [] (AI (colT f s2 n)) [] (VC.loop ir42_L4 [Item.bend (0 : Nat), Item.ir ir42_T5] (St.mk [((0 : Nat), AV.ag [AV.p false (PV.sl false (1 : Nat) n fun (i x : Nat) => PT (f i)), AV.p false (PV.sl false (1 : Nat) m (RR w h))]), ((1 : Nat), AV.p true (PV.v (Value.string s1))), ((2 : Nat), AV.p true (PV.v (Value.string s2))), ((3 : Nat), AV.adr (3 : Nat) (0 : Nat)), ((6 : Nat), AV.adr (6 : Nat) (0 : Nat)), ((7 : Nat), AV.p true (PV.v (Value.bool false))), ((32 : Nat), AV.p true (PV.v (Value.bool (decide (colT f s2 n < (0 : Int)))))), ((8 : Nat), AV.p true (PV.v (Value.int IntKind.i64 (colT f s1 n)))), ((9 : Nat), AV.p true (PV.v (Value.int IntKind.i64 (colT f s2 n)))), ((10 : Nat), AV.adr (10 : Nat) (0 : Nat)), ((11 : Nat), AV.p true (PV.v (Value.int IntKind.i64 (0 : Int))))] [((3 : Nat), Ob.box [AV.own (1015 : Nat), AV.own (2015 : Nat)]), ((6 : Nat), Ob.box [AV.p true (PV.v (Value.slice none (0 : Nat) (0 : Nat))), AV.p true (PV.v (Value.slice none (0 : Nat) (0 : Nat)))]), ((1015 : Nat), Ob.row Mode.u false (1 : Nat) n (TR f) []), ((2015 : Nat), Ob.row Mode.u false (1 : Nat) m (RR w h) []), ((43 : Nat), Ob.row Mode.u true (1 : Nat) (3 : Nat) (fun (i x : Nat) => PV.v (Value.string (litS [s1, ByteArray.mk #[(99 : UInt8), (111 : UInt8), (117 : UInt8), (110 : UInt8), (116 : UInt8)], ByteArray.mk #[(116 : UInt8), (111 : UInt8), (116 : UInt8), (97 : UInt8), (108 : UInt8)]] i))) []), ((10 : Nat), Ob.box [AV.own (43 : Nat), AV.p true (PV.v (Value.slice none (0 : Nat) (0 : Nat)))])])))))))))) := by intros; kernel_rfl
def st_sG (s1 : ByteArray) (n : Nat) (f : Nat → ByteArray) (m : Nat) (w : Nat → Nat) (h : Nat → Nat → Int) (cg cs : Int) (k N : Nat) (H : Nat → Nat → Int) : St := ⟨[(3, .adr 3 0), (6, .adr 6 0), (7, AB false), (8, AI cg), (9, AI cs), (10, .adr 10 0), (11, AI k)], [(3, .box [.p true (.sl false 1 n (TR f)), .p true (.sl false 1 m (RR w h))]), (6, .box [nilT, nilT]), (43, .row .u true 1 3 (TR (gNm s1)) []), (10, .box [.own 43, .own 12]), (12, .row .u false 1 N (R3 H) [])]⟩
theorem evr_sG : ∀ (s1 : ByteArray) (n : Nat) (f : Nat → ByteArray) (m : Nat) (w : Nat → Nat) (h : Nat → Nat → Int) (cg cs : Int) (k N : Nat) (H : Nat → Nat → Int) (I : Nat × List Gr → St → Prop) (x : Nat × List Gr), ev G0 res42 [] (3000 : Nat) (Or.nil.split (Or.call [] (AB (tableB (3 : Nat) (gNm s1) N (fun (x_1 : Nat) => (3 : Nat)) H)) [] (Or.nil.split Or.nil))) [Item.ir ir42_L4, Item.lend (I x), Item.bend (0 : Nat), Item.ir ir42_T5] (st_sG s1 n f m w h cg cs k N H) = VC.split (decide ((↑k : Int) < (↑m : Int))) (VC.loop ir42_L1 [Item.bend (2 : Nat), Item.ir ir42_T2, Item.bend (1 : Nat), Item.ir ir42_T3, Item.lend (I x), Item.bend (0 : Nat), Item.ir ir42_T5] (St.mk [((3 : Nat), AV.adr (3 : Nat) (0 : Nat)), ((6 : Nat), AV.adr (6 : Nat) (0 : Nat)), ((7 : Nat), AV.p true (PV.v (Value.bool false))), ((8 : Nat), AV.p true (PV.v (Value.int IntKind.i64 cg))), ((9 : Nat), AV.p true (PV.v (Value.int IntKind.i64 cs))), ((10 : Nat), AV.adr (10 : Nat) (0 : Nat)), ((11 : Nat), AV.p true (PV.v (Value.int IntKind.i64 (↑k : Int)))), ((49 : Nat), AV.p true (PV.v (Value.bool (decide ((↑k : Int) < (↑m : Int)))))), ((12 : Nat), AV.p true (PV.v (Value.int IntKind.i64 (0 : Int))))] [((3 : Nat), Ob.box [AV.p true (PV.sl false (1 : Nat) n (TR f)), AV.p true (PV.sl false (1 : Nat) m (RR w h))]), ((6 : Nat), Ob.box [AV.p true (PV.v (Value.slice none (0 : Nat) (0 : Nat))), AV.p true (PV.v (Value.slice none (0 : Nat) (0 : Nat)))]), ((43 : Nat), Ob.row Mode.u true (1 : Nat) (3 : Nat) (TR (gNm s1)) []), ((10 : Nat), Ob.box [AV.own (43 : Nat), AV.own (12 : Nat)]), ((12 : Nat), Ob.row Mode.u false (1 : Nat) N (R3 H) [])])) (VC.call (33 : Nat) [AV.ag [AV.p false (PV.sl true (1 : Nat) (3 : Nat) (TR (gNm s1))), AV.p false (PV.sl false (1 : Nat) N (R3 H))]] [] (AB (tableB (3 : Nat) (gNm s1) N (fun (x_1 : Nat) => (3 : Nat)) H)) [] (VC.split (!tableB (3 : Nat) (gNm s1) N (fun (x_1 : Nat) => (3 : Nat)) H) (VC.done (St.mk [((3 : Nat), AV.adr (3 : Nat) (0 : Nat)), ((6 : Nat), AV.adr (6 : Nat) (0 : Nat)), ((7 : Nat), AV.p true (PV.v (Value.bool false))), ((8 : Nat), AV.p true (PV.v (Value.int IntKind.i64 cg))), ((9 : Nat), AV.p true (PV.v (Value.int IntKind.i64 cs))), ((10 : Nat), AV.adr (10 : Nat) (0 : Nat)), ((11 : Nat), AV.p true (PV.v (Value.int IntKind.i64 (↑k : Int)))), ((49 : Nat), AV.p true (PV.v (Value.bool (decide ((↑k : Int) < (↑m : Int)))))), ((162 : Nat), AV.p true (PV.v (Value.bool !tableB (3 : Nat) (gNm s1) N (fun (x_1 : Nat) => (3 : Nat)) H)))] [((3 : Nat), Ob.box [AV.p true (PV.sl false (1 : Nat) n (TR f)), AV.p true (PV.sl false (1 : Nat) m (RR w h))]), ((6 : Nat), Ob.box [AV.p true (PV.v (Value.slice none (0 : Nat) (0 : Nat))), AV.p true (PV.v (Value.slice none (0 : Nat) (0 : Nat)))]), ((43 : Nat), Ob.row Mode.u true (1 : Nat) (3 : Nat) (TR (gNm s1)) []), ((10 : Nat), Ob.box [AV.own (43 : Nat), AV.own (12 : Nat)]), ((12 : Nat), Ob.row Mode.u false (1 : Nat) N (R3 H) [])])) (VC.done (St.mk [((3 : Nat), AV.adr (3 : Nat) (0 : Nat)), ((6 : Nat), AV.adr (6 : Nat) (0 : Nat)), ((7 : Nat), AV.p true (PV.v (Value.bool true))), ((8 : Nat), AV.p true (PV.v (Value.int IntKind.i64 cg))), ((9 : Nat), AV.p true (PV.v (Value.int IntKind.i64 cs))), ((10 : Nat), AV.adr (10 : Nat) (0 : Nat)), ((11 : Nat), AV.p true (PV.v (Value.int IntKind.i64 (↑k : Int)))), ((49 : Nat), AV.p true (PV.v (Value.bool (decide ((↑k : Int) < (↑m : Int)))))), ((162 : Nat), AV.p true (PV.v (Value.bool !tableB (3 : Nat) (gNm s1) N (fun (x_1 : Nat) => (3 : Nat)) H)))] [((3 : Nat), Ob.box [AV.p true (PV.sl false (1 : Nat) n (TR f)), AV.p true (PV.sl false (1 : Nat) m (RR w h))]), ((6 : Nat), Ob.box [AV.own (43 : Nat), AV.own (12 : Nat)]), ((43 : Nat), Ob.row Mode.u true (1 : Nat) (3 : Nat) (TR (gNm s1)) []), ((10 : Nat), Ob.box [AV.own (43 : Nat), AV.own (12 : Nat)]), ((12 : Nat), Ob.row Mode.u false (1 : Nat) N (R3 H) [])])))) := by intros; kernel_rfl
def st_sA (s1 : ByteArray) (n : Nat) (f : Nat → ByteArray) (m : Nat) (w : Nat → Nat) (h : Nat → Nat → Int) (cg cs : Int) (k N : Nat) (H : Nat → Nat → Int) (j : Nat) : St := ⟨[(3, .adr 3 0), (6, .adr 6 0), (7, AB false), (8, AI cg), (9, AI cs), (10, .adr 10 0), (11, AI k), (12, AI j)], [(3, .box [.p true (.sl false 1 n (TR f)), .p true (.sl false 1 m (RR w h))]), (6, .box [nilT, nilT]), (43, .row .u true 1 3 (TR (gNm s1)) []), (10, .box [.own 43, .own 12]), (12, .row .u false 1 N (R3 H) [])]⟩
theorem evr_sA : ∀ (s1 : ByteArray) (n : Nat) (f : Nat → ByteArray) (m : Nat) (w : Nat → Nat) (h : Nat → Nat → Int) (cg cs : Int) (k N : Nat) (H : Nat → Nat → Int) (I : Nat × List Gr → St → Prop) (x : Nat × List Gr) (J : Nat → St → Prop) (j : Nat), ev G0 res42 [] (3000 : Nat) ((Or.nil.split (Or.stop (1 : Nat))).lit.lit.lit.lit.lit.lit.lit.lit.lit.lit.lit.lit.lit.lit.lit.lit.split (Or.stop (1 : Nat)).lit.lit.lit.lit.lit.lit.lit.lit.lit.lit.lit.lit.lit.lit.lit.lit.lit) [Item.ir ir42_L1, Item.lend (J j), Item.bend (2 : Nat), Item.ir ir42_T2, Item.bend (1 : Nat), Item.ir ir42_T3, Item.lend (I x), Item.bend (0 : Nat), Item.ir ir42_T5] (st_sA s1 n f m w h cg cs k N H j) = VC.split (decide ((↑j : Int) < (↑N : Int))) (VC.need ((0 : Int) ≤ (↑j : Int) ∧ (↑j : Int).toNat < N) (VC.need ((↑j : Int).toNat < N) (VC.need ((0 : Int) ≤ (0 : Int) ∧ Int.toNat (0 : Int) < (3 : Nat)) (VC.need ((0 : Nat) < (3 : Nat)) (VC.need ((0 : Int) ≤ (↑k : Int) ∧ (↑k : Int).toNat < m) (VC.need ((0 : Int) ≤ cg ∧ cg.toNat < w (↑k : Int).toNat) (VC.split (decide (H (↑j : Int).toNat (0 : Nat) < h (↑k : Int).toNat cg.toNat)) (VC.lend (J j) (St.mk [((3 : Nat), AV.adr (3 : Nat) (0 : Nat)), ((6 : Nat), AV.adr (6 : Nat) (0 : Nat)), ((7 : Nat), AV.p true (PV.v (Value.bool false))), ((8 : Nat), AV.p true (PV.v (Value.int IntKind.i64 cg))), ((9 : Nat), AV.p true (PV.v (Value.int IntKind.i64 cs))), ((10 : Nat), AV.adr (10 : Nat) (0 : Nat)), ((11 : Nat), AV.p true (PV.v (Value.int IntKind.i64 (↑k : Int)))), ((12 : Nat), AV.p true (PV.v (Value.int IntKind.i64 (IntKind.i64.wrap ((↑j : Int) + (1 : Int)))))), ((74 : Nat), AV.p true (PV.v (Value.bool (decide (H (↑j : Int).toNat (0 : Nat) < h (↑k : Int).toNat cg.toNat)))))] [((3 : Nat), Ob.box [AV.p true (PV.sl false (1 : Nat) n (TR f)), AV.p true (PV.sl false (1 : Nat) m (RR w h))]), ((6 : Nat), Ob.box [AV.p true (PV.v (Value.slice none (0 : Nat) (0 : Nat))), AV.p true (PV.v (Value.slice none (0 : Nat) (0 : Nat)))]), ((43 : Nat), Ob.row Mode.u true (1 : Nat) (3 : Nat) (TR (gNm s1)) []), ((10 : Nat), Ob.box [AV.own (43 : Nat), AV.own (12 : Nat)]), ((12 : Nat), Ob.row Mode.u false (1 : Nat) N (cellSet (R3 H) (↑j : Int).toNat (nat_lit 0) (PV.sl false (1 : Nat) (3 : Nat) fun (j_1 x_1 : Nat) => PI (H (↑j : Int).toNat j_1))) [])])) (VC.stop [Item.ir ir42_T2, Item.bend (1 : Nat), Item.ir ir42_T3, Item.lend (I x), Item.bend (0 : Nat), Item.ir ir42_T5] (St.mk [((3 : Nat), AV.adr (3 : Nat) (0 : Nat)), ((6 : Nat), AV.adr (6 : Nat) (0 : Nat)), ((7 : Nat), AV.p true (PV.v (Value.bool false))), ((8 : Nat), AV.p true (PV.v (Value.int IntKind.i64 cg))), ((9 : Nat), AV.p true (PV.v (Value.int IntKind.i64 cs))), ((10 : Nat), AV.adr (10 : Nat) (0 : Nat)), ((11 : Nat), AV.p true (PV.v (Value.int IntKind.i64 (↑k : Int)))), ((12 : Nat), AV.p true (PV.v (Value.int IntKind.i64 (↑j : Int)))), ((74 : Nat), AV.p true (PV.v (Value.bool (decide (H (↑j : Int).toNat (0 : Nat) < h (↑k : Int).toNat cg.toNat)))))] [((3 : Nat), Ob.box [AV.p true (PV.sl false (1 : Nat) n (TR f)), AV.p true (PV.sl false (1 : Nat) m (RR w h))]), ((6 : Nat), Ob.box [AV.p true (PV.v (Value.slice none (0 : Nat) (0 : Nat))), AV.p true (PV.v (Value.slice none (0 : Nat) (0 : Nat)))]), ((43 : Nat), Ob.row Mode.u true (1 : Nat) (3 : Nat) (TR (gNm s1)) []), ((10 : Nat), Ob.box [AV.own (43 : Nat), AV.own (12 : Nat)]), ((12 : Nat), Ob.row Mode.u false (1 : Nat) N (cellSet (R3 H) (↑j : Int).toNat (nat_lit 0) (PV.sl false (1 : Nat) (3 : Nat) fun (j_1 x_1 : Nat) => PI (H (↑j : Int).toNat j_1))) [])]))))))))) (VC.stop [Item.ir ir42_T2, Item.bend (1 : Nat), Item.ir ir42_T3, Item.lend (I x), Item.bend (0 : Nat), Item.ir ir42_T5] (St.mk [((3 : Nat), AV.adr (3 : Nat) (0 : Nat)), ((6 : Nat), AV.adr (6 : Nat) (0 : Nat)), ((7 : Nat), AV.p true (PV.v (Value.bool false))), ((8 : Nat), AV.p true (PV.v (Value.int IntKind.i64 cg))), ((9 : Nat), AV.p true (PV.v (Value.int IntKind.i64 cs))), ((10 : Nat), AV.adr (10 : Nat) (0 : Nat)), ((11 : Nat), AV.p true (PV.v (Value.int IntKind.i64 (↑k : Int)))), ((12 : Nat), AV.p true (PV.v (Value.int IntKind.i64 (↑j : Int)))), ((74 : Nat), AV.p true (PV.v (Value.bool false)))] [((3 : Nat), Ob.box [AV.p true (PV.sl false (1 : Nat) n (TR f)), AV.p true (PV.sl false (1 : Nat) m (RR w h))]), ((6 : Nat), Ob.box [AV.p true (PV.v (Value.slice none (0 : Nat) (0 : Nat))), AV.p true (PV.v (Value.slice none (0 : Nat) (0 : Nat)))]), ((43 : Nat), Ob.row Mode.u true (1 : Nat) (3 : Nat) (TR (gNm s1)) []), ((10 : Nat), Ob.box [AV.own (43 : Nat), AV.own (12 : Nat)]), ((12 : Nat), Ob.row Mode.u false (1 : Nat) N (R3 H) [])])) := by intros; kernel_rfl
theorem evr_sT : ∀ (s1 : ByteArray) (n : Nat) (f : Nat → ByteArray) (m : Nat) (w : Nat → Nat) (h : Nat → Nat → Int) (cg cs : Int) (k N : Nat) (H : Nat → Nat → Int) (I : Nat × List Gr → St → Prop) (x : Nat × List Gr) (j : Nat), ev G0 res42 [] (3000 : Nat) ((Or.stop (1 : Nat)).lit.lit.lit.lit.lit.lit.lit.lit.lit.lit.lit.lit.lit.lit.lit.lit.lit.split ((Or.stop (1 : Nat)).split (Or.stop (2 : Nat))).lit.lit.lit.lit.lit.lit.lit.lit.lit.lit.lit.lit.lit.lit.lit.lit) [Item.ir ir42_T2, Item.bend (1 : Nat), Item.ir ir42_T3, Item.lend (I x), Item.bend (0 : Nat), Item.ir ir42_T5] (st_sA s1 n f m w h cg cs k N H j) = VC.split ((↑j : Int) == (↑N : Int)) (VC.stop [Item.ir ir42_C1, Item.ir ir42_E1, Item.ir (ir42_C2.seq ir42_C3), Item.bend (1 : Nat), Item.ir ir42_T3, Item.lend (I x), Item.bend (0 : Nat), Item.ir ir42_T5] (St.mk [((3 : Nat), AV.adr (3 : Nat) (0 : Nat)), ((6 : Nat), AV.adr (6 : Nat) (0 : Nat)), ((7 : Nat), AV.p true (PV.v (Value.bool false))), ((8 : Nat), AV.p true (PV.v (Value.int IntKind.i64 cg))), ((9 : Nat), AV.p true (PV.v (Value.int IntKind.i64 cs))), ((10 : Nat), AV.adr (10 : Nat) (0 : Nat)), ((11 : Nat), AV.p true (PV.v (Value.int IntKind.i64 (↑k : Int)))), ((12 : Nat), AV.p true (PV.v (Value.int IntKind.i64 (↑j : Int)))), ((99 : Nat), AV.p true (PV.v (Value.bool true)))] [((3 : Nat), Ob.box [AV.p true (PV.sl false (1 : Nat) n (TR f)), AV.p true (PV.sl false (1 : Nat) m (RR w h))]), ((6 : Nat), Ob.box [AV.p true (PV.v (Value.slice none (0 : Nat) (0 : Nat))), AV.p true (PV.v (Value.slice none (0 : Nat) (0 : Nat)))]), ((43 : Nat), Ob.row Mode.u true (1 : Nat) (3 : Nat) (TR (gNm s1)) []), ((10 : Nat), Ob.box [AV.own (43 : Nat), AV.own (12 : Nat)]), ((12 : Nat), Ob.row Mode.u false (1 : Nat) N (R3 H) [])])) (VC.need ((0 : Int) ≤ (↑j : Int) ∧ (↑j : Int).toNat < N) (VC.need ((↑j : Int).toNat < N) (VC.need ((0 : Int) ≤ (0 : Int) ∧ Int.toNat (0 : Int) < (3 : Nat)) (VC.need ((0 : Nat) < (3 : Nat)) (VC.need ((0 : Int) ≤ (↑k : Int) ∧ (↑k : Int).toNat < m) (VC.need ((0 : Int) ≤ cg ∧ cg.toNat < w (↑k : Int).toNat) (VC.split (H (↑j : Int).toNat (0 : Nat) != h (↑k : Int).toNat cg.toNat) (VC.stop [Item.ir ir42_C1, Item.ir ir42_E1, Item.ir (ir42_C2.seq ir42_C3), Item.bend (1 : Nat), Item.ir ir42_T3, Item.lend (I x), Item.bend (0 : Nat), Item.ir ir42_T5] (St.mk [((3 : Nat), AV.adr (3 : Nat) (0 : Nat)), ((6 : Nat), AV.adr (6 : Nat) (0 : Nat)), ((7 : Nat), AV.p true (PV.v (Value.bool false))), ((8 : Nat), AV.p true (PV.v (Value.int IntKind.i64 cg))), ((9 : Nat), AV.p true (PV.v (Value.int IntKind.i64 cs))), ((10 : Nat), AV.adr (10 : Nat) (0 : Nat)), ((11 : Nat), AV.p true (PV.v (Value.int IntKind.i64 (↑k : Int)))), ((12 : Nat), AV.p true (PV.v (Value.int IntKind.i64 (↑j : Int)))), ((99 : Nat), AV.p true (PV.v (Value.bool (H (↑j : Int).toNat (0 : Nat) != h (↑k : Int).toNat cg.toNat))))] [((3 : Nat), Ob.box [AV.p true (PV.sl false (1 : Nat) n (TR f)), AV.p true (PV.sl false (1 : Nat) m (RR w h))]), ((6 : Nat), Ob.box [AV.p true (PV.v (Value.slice none (0 : Nat) (0 : Nat))), AV.p true (PV.v (Value.slice none (0 : Nat) (0 : Nat)))]), ((43 : Nat), Ob.row Mode.u true (1 : Nat) (3 : Nat) (TR (gNm s1)) []), ((10 : Nat), Ob.box [AV.own (43 : Nat), AV.own (12 : Nat)]), ((12 : Nat), Ob.row Mode.u false (1 : Nat) N (cellSet (R3 H) (↑j : Int).toNat (nat_lit 0) (PV.sl false (1 : Nat) (3 : Nat) fun (j_1 x_1 : Nat) => PI (H (↑j : Int).toNat j_1))) [])])) (VC.stop [Item.ir ir42_C2, Item.ir ir42_C3, Item.bend (1 : Nat), Item.ir ir42_T3, Item.lend (I x), Item.bend (0 : Nat), Item.ir ir42_T5] (St.mk [((3 : Nat), AV.adr (3 : Nat) (0 : Nat)), ((6 : Nat), AV.adr (6 : Nat) (0 : Nat)), ((7 : Nat), AV.p true (PV.v (Value.bool false))), ((8 : Nat), AV.p true (PV.v (Value.int IntKind.i64 cg))), ((9 : Nat), AV.p true (PV.v (Value.int IntKind.i64 cs))), ((10 : Nat), AV.adr (10 : Nat) (0 : Nat)), ((11 : Nat), AV.p true (PV.v (Value.int IntKind.i64 (↑k : Int)))), ((12 : Nat), AV.p true (PV.v (Value.int IntKind.i64 (↑j : Int)))), ((99 : Nat), AV.p true (PV.v (Value.bool (H (↑j : Int).toNat (0 : Nat) != h (↑k : Int).toNat cg.toNat))))] [((3 : Nat), Ob.box [AV.p true (PV.sl false (1 : Nat) n (TR f)), AV.p true (PV.sl false (1 : Nat) m (RR w h))]), ((6 : Nat), Ob.box [AV.p true (PV.v (Value.slice none (0 : Nat) (0 : Nat))), AV.p true (PV.v (Value.slice none (0 : Nat) (0 : Nat)))]), ((43 : Nat), Ob.row Mode.u true (1 : Nat) (3 : Nat) (TR (gNm s1)) []), ((10 : Nat), Ob.box [AV.own (43 : Nat), AV.own (12 : Nat)]), ((12 : Nat), Ob.row Mode.u false (1 : Nat) N (cellSet (R3 H) (↑j : Int).toNat (nat_lit 0) (PV.sl false (1 : Nat) (3 : Nat) fun (j_1 x_1 : Nat) => PI (H (↑j : Int).toNat j_1))) [])]))))))))) := by intros; kernel_rfl
theorem evr_sC1 : ∀ (s1 : ByteArray) (n : Nat) (f : Nat → ByteArray) (m : Nat) (w : Nat → Nat) (h : Nat → Nat → Int) (cg cs : Int) (k N : Nat) (H : Nat → Nat → Int) (I : Nat × List Gr → St → Prop) (x : Nat × List Gr) (j : Nat), ev G0 res42 [] (3000 : Nat) (Or.stop (33 : Nat)) [Item.ir ir42_C1, Item.ir ir42_E1, Item.ir (ir42_C2.seq ir42_C3), Item.bend (1 : Nat), Item.ir ir42_T3, Item.lend (I x), Item.bend (0 : Nat), Item.ir ir42_T5] (st_sA s1 n f m w h cg cs k N H j) = VC.need ((0 : Int) ≤ (↑j : Int) ∧ (↑j : Int) ≤ (↑N : Int)) (VC.need ((((0 : Nat) + (N - (↑j : Int).toNat)) * (24 : Nat) ≤ (140737488355328 : Nat) ∧ (↑((0 : Nat) + (N - (↑j : Int).toNat)) : Int) ≤ (9223372036854775807 : Int)) ∧ (↑j : Int).toNat ≤ N ∧ allOne (1 : Nat) (N - (↑j : Int).toNat) fun (a b : Nat) => R3 H (a + (↑j : Int).toNat) b) (VC.need ((0 : Int) ≤ (↑j : Int) ∧ (↑j : Int) ≤ (↑N : Int)) (VC.need ((0 : Int) ≤ (↑k : Int) ∧ (↑k : Int).toNat < m) (VC.need ((0 : Int) ≤ cg ∧ cg.toNat < w (↑k : Int).toNat) (VC.need ((((↑j : Int).toNat + (1 : Nat)) * (24 : Nat) ≤ (140737488355328 : Nat) ∧ (↑((↑j : Int).toNat + (1 : Nat)) : Int) ≤ (9223372036854775807 : Int)) ∧ allOne (1 : Nat) (1 : Nat) (setG [((0 : Nat), (0 : Nat), PV.sl true (1 : Nat) (3 : Nat) fun (i x_1 : Nat) => PV.v (Value.int IntKind.i64 (litI [h (↑k : Int).toNat cg.toNat, (0 : Int), (0 : Int)] i)))] fun (x_1 j_1 : Nat) => PV.v ([Value.slice none (0 : Nat) (0 : Nat)].getD j_1 undef))) (VC.need ((((↑j : Int).toNat + (1 : Nat) + ((0 : Nat) + (N - (↑j : Int).toNat))) * (24 : Nat) ≤ (140737488355328 : Nat) ∧ (↑((↑j : Int).toNat + (1 : Nat) + ((0 : Nat) + (N - (↑j : Int).toNat))) : Int) ≤ (9223372036854775807 : Int)) ∧ allOne (1 : Nat) ((0 : Nat) + (N - (↑j : Int).toNat)) fun (a b : Nat) => if a < (0 : Nat) then setG [] (fun (x_1 j_1 : Nat) => PV.v ([Value.slice none (0 : Nat) (0 : Nat)].getD j_1 undef)) a b else R3 H (a - (0 : Nat) + (↑j : Int).toNat) b) (VC.stop [Item.ir ir42_C2, Item.ir ir42_C3, Item.bend (1 : Nat), Item.ir ir42_T3, Item.lend (I x), Item.bend (0 : Nat), Item.ir ir42_T5] (St.mk [((3 : Nat), AV.adr (3 : Nat) (0 : Nat)), ((6 : Nat), AV.adr (6 : Nat) (0 : Nat)), ((7 : Nat), AV.p true (PV.v (Value.bool false))), ((8 : Nat), AV.p true (PV.v (Value.int IntKind.i64 cg))), ((9 : Nat), AV.p true (PV.v (Value.int IntKind.i64 cs))), ((10 : Nat), AV.adr (10 : Nat) (0 : Nat)), ((11 : Nat), AV.p true (PV.v (Value.int IntKind.i64 (↑k : Int)))), ((12 : Nat), AV.p true (PV.v (Value.int IntKind.i64 (↑j : Int)))), ((13 : Nat), AV.own (105 : Nat))] [((3 : Nat), Ob.box [AV.p true (PV.sl false (1 : Nat) n (TR f)), AV.p true (PV.sl false (1 : Nat) m (RR w h))]), ((6 : Nat), Ob.box [AV.p true (PV.v (Value.slice none (0 : Nat) (0 : Nat))), AV.p true (PV.v (Value.slice none (0 : Nat) (0 : Nat)))]), ((43 : Nat), Ob.row Mode.u true (1 : Nat) (3 : Nat) (TR (gNm s1)) []), ((10 : Nat), Ob.box [AV.own (43 : Nat), AV.own (122 : Nat)]), ((122 : Nat), Ob.row Mode.u false (1 : Nat) ((↑j : Int).toNat + (1 : Nat) + ((0 : Nat) + (N - (↑j : Int).toNat))) (fun (a b : Nat) => if a < (↑j : Int).toNat + (1 : Nat) then if a < (↑j : Int).toNat then if a < (↑j : Int).toNat then R3 H a b else PV.any else setG [((0 : Nat), (0 : Nat), PV.sl true (1 : Nat) (3 : Nat) fun (i x_1 : Nat) => PV.v (Value.int IntKind.i64 (litI [h (↑k : Int).toNat cg.toNat, (0 : Int), (0 : Int)] i)))] (fun (x_1 j_1 : Nat) => PV.v ([Value.slice none (0 : Nat) (0 : Nat)].getD j_1 undef)) (a - (↑j : Int).toNat) b else if a - ((↑j : Int).toNat + (1 : Nat)) < (0 : Nat) then setG [] (fun (x_1 j_1 : Nat) => PV.v ([Value.slice none (0 : Nat) (0 : Nat)].getD j_1 undef)) (a - ((↑j : Int).toNat + (1 : Nat))) b else R3 H (a - ((↑j : Int).toNat + (1 : Nat)) - (0 : Nat) + (↑j : Int).toNat) b) [])])))))))) := by intros; kernel_rfl
def st_sB (s1 : ByteArray) (n : Nat) (f : Nat → ByteArray) (m : Nat) (w : Nat → Nat) (h : Nat → Nat → Int) (cg cs : Int) (k N : Nat) (H : Nat → Nat → Int) (j : Nat) : St := ((st_sA s1 n f m w h cg cs k N H j).setOb 12 (.row .u false 1 N (R3 H) [(j, 0, 77)])).setOb 77 (.row .u false 1 3 (fun c _ => PI (H j c)) [])
theorem evr_sC2 : ∀ (s1 : ByteArray) (n : Nat) (f : Nat → ByteArray) (m : Nat) (w : Nat → Nat) (h : Nat → Nat → Int) (cg cs : Int) (k N : Nat) (H : Nat → Nat → Int) (I : Nat × List Gr → St → Prop) (x : Nat × List Gr) (j : Nat), ev G0 res42 [] (3000 : Nat) (Or.stop (18 : Nat)) [Item.ir ir42_C2, Item.ir ir42_C3, Item.bend (1 : Nat), Item.ir ir42_T3, Item.lend (I x), Item.bend (0 : Nat), Item.ir ir42_T5] (st_sB s1 n f m w h cg cs k N H j) = VC.need ((0 : Int) ≤ (↑j : Int) ∧ (↑j : Int).toNat < N) (VC.need ((↑j : Int).toNat < N ∧ (↑j : Int).toNat = j) (VC.need ((0 : Int) ≤ (↑j : Int) ∧ (↑j : Int).toNat < N) (VC.need ((↑j : Int).toNat < N ∧ (↑j : Int).toNat = j) (VC.need ((0 : Int) ≤ (1 : Int) ∧ Int.toNat (1 : Int) < (3 : Nat)) (VC.need ((1 : Nat) < (3 : Nat)) (VC.need ((0 : Int) ≤ (1 : Int) ∧ Int.toNat (1 : Int) < (3 : Nat)) (VC.need ((1 : Nat) < (3 : Nat)) (VC.stop [Item.ir ir42_C3, Item.bend (1 : Nat), Item.ir ir42_T3, Item.lend (I x), Item.bend (0 : Nat), Item.ir ir42_T5] (St.mk [((3 : Nat), AV.adr (3 : Nat) (0 : Nat)), ((6 : Nat), AV.adr (6 : Nat) (0 : Nat)), ((7 : Nat), AV.p true (PV.v (Value.bool false))), ((8 : Nat), AV.p true (PV.v (Value.int IntKind.i64 cg))), ((9 : Nat), AV.p true (PV.v (Value.int IntKind.i64 cs))), ((10 : Nat), AV.adr (10 : Nat) (0 : Nat)), ((11 : Nat), AV.p true (PV.v (Value.int IntKind.i64 (↑k : Int)))), ((12 : Nat), AV.p true (PV.v (Value.int IntKind.i64 (↑j : Int))))] [((3 : Nat), Ob.box [AV.p true (PV.sl false (1 : Nat) n (TR f)), AV.p true (PV.sl false (1 : Nat) m (RR w h))]), ((6 : Nat), Ob.box [AV.p true (PV.v (Value.slice none (0 : Nat) (0 : Nat))), AV.p true (PV.v (Value.slice none (0 : Nat) (0 : Nat)))]), ((43 : Nat), Ob.row Mode.u true (1 : Nat) (3 : Nat) (TR (gNm s1)) []), ((10 : Nat), Ob.box [AV.own (43 : Nat), AV.own (12 : Nat)]), ((12 : Nat), Ob.row Mode.u false (1 : Nat) N (cellSet (R3 H) j (nat_lit 0) (PV.sl false (1 : Nat) (3 : Nat) (setG [((1 : Nat), (0 : Nat), PV.v (Value.int IntKind.i64 (IntKind.i64.wrap (H j (1 : Nat) + (1 : Int)))))] fun (c x_1 : Nat) => PI (H j c)))) [])]))))))))) := by intros; kernel_rfl
theorem evr_sC3 : ∀ (s1 : ByteArray) (n : Nat) (f : Nat → ByteArray) (m : Nat) (w : Nat → Nat) (h : Nat → Nat → Int) (cg cs : Int) (k N : Nat) (H : Nat → Nat → Int) (I : Nat × List Gr → St → Prop) (x : Nat × List Gr) (j : Nat), ev G0 res42 [] (3000 : Nat) Or.nil [Item.ir ir42_C3, Item.bend (1 : Nat), Item.ir ir42_T3, Item.lend (I x), Item.bend (0 : Nat), Item.ir ir42_T5] (st_sB s1 n f m w h cg cs k N H j) = VC.need ((0 : Int) ≤ (↑j : Int) ∧ (↑j : Int).toNat < N) (VC.need ((↑j : Int).toNat < N ∧ (↑j : Int).toNat = j) (VC.need ((0 : Int) ≤ (↑j : Int) ∧ (↑j : Int).toNat < N) (VC.need ((↑j : Int).toNat < N ∧ (↑j : Int).toNat = j) (VC.need ((0 : Int) ≤ (2 : Int) ∧ Int.toNat (2 : Int) < (3 : Nat)) (VC.need ((2 : Nat) < (3 : Nat)) (VC.need ((0 : Int) ≤ (↑k : Int) ∧ (↑k : Int).toNat < m) (VC.need ((0 : Int) ≤ cs ∧ cs.toNat < w (↑k : Int).toNat) (VC.need ((0 : Int) ≤ (2 : Int) ∧ Int.toNat (2 : Int) < (3 : Nat)) (VC.need ((2 : Nat) < (3 : Nat)) (VC.lend (I x) (St.mk [((3 : Nat), AV.adr (3 : Nat) (0 : Nat)), ((6 : Nat), AV.adr (6 : Nat) (0 : Nat)), ((7 : Nat), AV.p true (PV.v (Value.bool false))), ((8 : Nat), AV.p true (PV.v (Value.int IntKind.i64 cg))), ((9 : Nat), AV.p true (PV.v (Value.int IntKind.i64 cs))), ((10 : Nat), AV.adr (10 : Nat) (0 : Nat)), ((11 : Nat), AV.p true (PV.v (Value.int IntKind.i64 (IntKind.i64.wrap ((↑k : Int) + (1 : Int)))))), ((12 : Nat), AV.p true (PV.v (Value.int IntKind.i64 (↑j : Int))))] [((3 : Nat), Ob.box [AV.p true (PV.sl false (1 : Nat) n (TR f)), AV.p true (PV.sl false (1 : Nat) m (RR w h))]), ((6 : Nat), Ob.box [AV.p true (PV.v (Value.slice none (0 : Nat) (0 : Nat))), AV.p true (PV.v (Value.slice none (0 : Nat) (0 : Nat)))]), ((43 : Nat), Ob.row Mode.u true (1 : Nat) (3 : Nat) (TR (gNm s1)) []), ((10 : Nat), Ob.box [AV.own (43 : Nat), AV.own (12 : Nat)]), ((12 : Nat), Ob.row Mode.u false (1 : Nat) N (cellSet (R3 H) j (nat_lit 0) (PV.sl false (1 : Nat) (3 : Nat) (setG [((2 : Nat), (0 : Nat), PV.v (Value.int IntKind.i64 (IntKind.i64.wrap (H j (2 : Nat) + h (↑k : Int).toNat cs.toNat))))] fun (c x_1 : Nat) => PI (H j c)))) [])]))))))))))) := by intros; kernel_rfl
/-- A row of a row of which nobody else speaks becomes an object of its own. -/
theorem Wk.lend2 {s : St} {i e k j : Nat} {nn : Bool} {esz n : Nat} {g : Nat → Nat → PV} {hl : List (Nat × Nat × Nat)} (ho : s.obj i = some (.row .u nn esz n g hl)) (hk : k < n) (hj : j < esz)
    (hh : hole hl k j = none) {nn' : Bool} {e' n' : Nat} {g' : Nat → Nat → PV} (hg : g k j = .sl nn' e' n' g') (hid : s.noidB e = true) (hne : e ≠ i) : Wk s ((s.setOb i (.row .u nn esz n g ((k, j, e) :: hl))).setOb e (.row .u nn' e' n' g' [])) := fun cx ι ow a w hm => by
  rcases hm.obs i _ ho with ⟨h, _⟩ | ⟨b', cap', c', t', q, h4, h0, h1, h2, h3, hq, h5⟩
  · omega
  · obtain ⟨ow', _, h6⟩ := hm.extract ho hk hj hh hg (St.noid_of hid) hne h4 h1
    exact ⟨_, ow', h6⟩
theorem M.via2 {P : Program} {G : List (Nat × PV)} {rl : List RI} {H0 : List (Nat × Ob)} {R : AV → List (Nat × Ob) → Prop} {x : Ir} {k : List Item} {s s' : St} (h : Wk s s') {n : Nat} {or : Or} {vc : VC} (he : Go.Gw.ev G rl H0 n or (.ir x :: k) s' = vc) (hv : vc.holds P G rl H0 R) :
    M P G (Post rl H0 R) (.ir x :: k) s := M.wk h (ev_ok n _ _ _ (he.symm ▸ hv))
theorem hG_ins {G : List Gr} {g : Gr} {l : Nat} (hl : l ≤ G.length) (i j : Nat) : hG (G.take l ++ g :: G.drop l) i j = if i < l then hG G i j else if i = l then g.col j else hG G (i - 1) j := by
  have hlen : (G.take l).length = l := by simp; omega
  simp only [hG, List.getD_eq_getElem?_getD]
  by_cases h1 : i < l
  · rw [List.getElem?_append_left (by omega), List.getElem?_take, if_pos h1, if_pos h1]
  · rw [List.getElem?_append_right (by omega), hlen, if_neg h1]
    by_cases h2 : i = l
    · subst h2; simp
    · rw [if_neg h2]
      obtain ⟨d, hd⟩ : ∃ d, i - l = d + 1 := ⟨i - l - 1, by omega⟩
      rw [hd, List.getElem?_cons_succ, List.getElem?_drop, show l + d = i - 1 by omega]
/-- What a group's two numbers become. -/
theorem grp_step {M : List Gr} {l : Nat} {v : Int} {B : Int} (hl : l < M.length) (ok : GrOk B M) (hB : B ≤ 100) (hv : -100000 ≤ v ∧ v ≤ 100000) :
    IntKind.i64.wrap (hG M l 1 + 1) = (M.getD l g0).c + 1 ∧ ∃ M1 : List Gr, M1.length = M.length ∧ IntKind.i64.wrap (hG M1 l 2 + v) = (M.getD l g0).t + v ∧
      (∀ i, PV.Le (cellSet (R3 (hG M)) l 0 (.sl false 1 3 (setG [(1, 0, .v (.int .i64 ((M.getD l g0).c + 1)))] fun j _ => PI (hG M l j))) i 0) (R3 (hG M1) i 0)) ∧
      ∀ i, PV.Le (cellSet (R3 (hG M1)) l 0 (.sl false 1 3 (setG [(2, 0, .v (.int .i64 ((M.getD l g0).t + v)))] fun j _ => PI (hG M1 l j))) i 0) (R3 (hG (M.set l ⟨(M.getD l g0).a, (M.getD l g0).c + 1, (M.getD l g0).t + v⟩)) i 0) := by
  have b := ok.get hl
  have hl2 : l < (M.set l ⟨(M.getD l g0).a, (M.getD l g0).c + 1, (M.getD l g0).t⟩).length := by simpa using hl
  have eS : (M.set l ⟨(M.getD l g0).a, (M.getD l g0).c + 1, (M.getD l g0).t⟩).getD l g0 = ⟨(M.getD l g0).a, (M.getD l g0).c + 1, (M.getD l g0).t⟩ := by
    rw [List.getD_eq_getElem?_getD, List.getElem?_set_self hl]; rfl
  have hN2 : (M.set l ⟨(M.getD l g0).a, (M.getD l g0).c + 1, (M.getD l g0).t⟩).set l ⟨(M.getD l g0).a, (M.getD l g0).c + 1, (M.getD l g0).t + v⟩ = M.set l ⟨(M.getD l g0).a, (M.getD l g0).c + 1, (M.getD l g0).t + v⟩ := List.set_set ..
  refine ⟨wrap_in (show _ ≤ (M.getD l g0).c + 1 by omega) (show (M.getD l g0).c + 1 ≤ _ by omega), M.set l ⟨(M.getD l g0).a, (M.getD l g0).c + 1, (M.getD l g0).t⟩, by simp, ?_, ?_, ?_⟩
  · show IntKind.i64.wrap (((M.set l ⟨(M.getD l g0).a, (M.getD l g0).c + 1, (M.getD l g0).t⟩).getD l g0).t + v) = _
    rw [eS]
    exact wrap_in (by simp only []; omega) (by simp only []; omega)
  · refine R3_set (by rw [hG_set hl, if_pos rfl]; rfl) fun i j hj hij => ?_
    rw [hG_set hl]
    by_cases hi : i = l
    · subst hi
      rw [if_pos rfl]
      match j, hj with
      | 0, _ => rfl
      | 1, _ => simp at hij
      | 2, _ => rfl
    · rw [if_neg hi]
  · rw [← hN2]
    refine R3_set (by rw [hG_set hl2, if_pos rfl]; rfl) fun i j hj hij => ?_
    rw [hG_set hl2]
    by_cases hi : i = l
    · subst hi
      rw [if_pos rfl]
      show _ = ((M.set i ⟨(M.getD i g0).a, (M.getD i g0).c + 1, (M.getD i g0).t⟩).getD i g0).col j
      rw [eS]
      match j, hj with
      | 0, _ => rfl
      | 1, _ => rfl
      | 2, _ => simp at hij
    · rw [if_neg hi]
theorem spG_C2 {R : AV → List (Nat × Ob) → Prop} (s1 : ByteArray) (n : Nat) (f : Nat → ByteArray) (m : Nat) (w : Nat → Nat) (h : Nat → Nat → Int) (cg cs : Int) (k : Nat) (I : Nat × List Gr → St → Prop) (x : Nat × List Gr) (G : List Gr) (a v : Int) (hkm : k < m) (hm : m ≤ 16) (hcg : 0 ≤ cg ∧ cg.toNat < w k) (hcs : 0 ≤ cs ∧ cs.toNat < w k) (ha : h k cg.toNat = a) (hv : h k cs.toNat = v) (hvr : -100000 ≤ v ∧ v ≤ 100000) (hok : GrOk (k : Int) G) (hlen : G.length ≤ 16)
    (hI : ∀ s', Wk s' (st_sG s1 n f m w h cg cs (k + 1) (addG a v G).length (hG (addG a v G))) → I x s') :
    M Tryd.prog G0 (Post res42 [] R) [Item.ir ir42_C2, Item.ir ir42_C3, Item.bend 1, Item.ir ir42_T3, .lend (I x), Item.bend 0, Item.ir ir42_T5] (st_sA s1 n f m w h cg cs k (midG a G).length (hG (midG a G)) (atG a G)) := by
  have ek : IntKind.i64.wrap ((k : Int) + 1) = ((k + 1 : Nat) : Int) := wrap_in (by omega) (by omega)
  have hml := midG_len a G
  have hadd := addG_eq a v G
  have okM : GrOk (k : Int) (midG a G) := hok.mid (by omega) _
  generalize midG a G = M at *
  generalize atG a G = l at *
  have hl : l < M.length := hml.2.2
  obtain ⟨e1, M1, hM1, e2, hs1, hs2⟩ := grp_step hl okM (by omega) hvr
  rw [← hadd] at hs2
  have el3 : (addG a v G).length = M.length := by rw [hadd]; simp
  refine Go.Gw.M.via2 (Wk.lend2 (s := st_sA s1 n f m w h cg cs k M.length (hG M) l) (i := 12) (e := 77) (k := l) (j := 0) rfl hl (by decide) rfl rfl rfl (by decide)) (evr_sC2 s1 n f m w h cg cs k M.length (hG M) I x l) ?_
  simp only [VC.holds_split, VC.holds_need, VC.holds_doneP, VC.holds_done, VC.holds_either, VC.holds_call, VC.holds_callE, VC.holds_lend, VC.holds_stop, VC.holds_fail, decide_eq_true_eq, decide_eq_false_iff_not, Int.toNat_natCast, e1]
  refine ⟨⟨by omega, by omega⟩, ⟨by omega, trivial⟩, ⟨by omega, by omega⟩, ⟨by omega, trivial⟩, ⟨by decide, by decide⟩, by decide, ⟨by decide, by decide⟩, by decide, ?_⟩
  refine Go.Gw.M.via2 ((Wk.mk [] [] [] (s' := st_sA s1 n f m w h cg cs k M.length (hG M1) l) ?_).trans (Wk.lend2 (s := st_sA s1 n f m w h cg cs k M.length (hG M1) l) (i := 12) (e := 77) (k := l) (j := 0) rfl hl (by decide) rfl rfl rfl (by decide))) (evr_sC3 s1 n f m w h cg cs k M.length (hG M1) I x l) ?_
  · simp only [st_sA]
    generalize R3 (hG M1) = X1 at *
    simp [hbs, St.lowers, St.lower, stLe, leEnv, leObs, obLe, injB, pinC, AV.leC, AV.leCs, PV.leC, PV.Le_v, St.get, St.obj, look, rho, isNew, keptC, renH, Mode.ok, Mode.isZ, PV.isVal, PV.isNilSl, List.all_nil, List.all_cons, List.any_nil, List.any_cons, List.map_nil, List.map_cons, PV.Le_self]
    exact fun i hi => hs1 i
  · simp only [VC.holds_split, VC.holds_need, VC.holds_doneP, VC.holds_done, VC.holds_either, VC.holds_call, VC.holds_callE, VC.holds_lend, VC.holds_stop, VC.holds_fail, decide_eq_true_eq, decide_eq_false_iff_not, Int.toNat_natCast, hv, e2]
    refine ⟨⟨by omega, by omega⟩, ⟨by omega, trivial⟩, ⟨by omega, by omega⟩, ⟨by omega, trivial⟩, ⟨by decide, by decide⟩, by decide, ⟨by omega, by omega⟩, ⟨by omega, by omega⟩, ⟨by decide, by decide⟩, by decide, hI _ (Wk.mk [] [] [] ?_)⟩
    simp only [st_sG, el3]
    generalize R3 (hG (addG a v G)) = X2 at *
    generalize R3 (hG M1) = X1 at *
    simp [hbs, St.lowers, St.lower, stLe, leEnv, leObs, obLe, injB, pinC, AV.leC, AV.leCs, PV.leC, PV.Le_v, St.get, St.obj, look, rho, isNew, keptC, renH, Mode.ok, Mode.isZ, PV.isVal, PV.isNilSl, List.all_nil, List.all_cons, List.any_nil, List.any_cons, List.map_nil, List.map_cons, PV.Le_self, ek]
    exact fun i hi => hs2 i
theorem spG_C1 {R : AV → List (Nat × Ob) → Prop} (s1 : ByteArray) (n : Nat) (f : Nat → ByteArray) (m : Nat) (w : Nat → Nat) (h : Nat → Nat → Int) (cg cs : Int) (k : Nat) (I : Nat × List Gr → St → Prop) (x : Nat × List Gr) (G : List Gr) (a v : Int) (hkm : k < m) (hm : m ≤ 16) (hcg : 0 ≤ cg ∧ cg.toNat < w k) (hcs : 0 ≤ cs ∧ cs.toNat < w k) (ha : h k cg.toNat = a) (hv : h k cs.toNat = v) (hvr : -100000 ≤ v ∧ v ≤ 100000) (hok : GrOk (k : Int) G) (hlen : G.length ≤ 16)
    (hI : ∀ s', Wk s' (st_sG s1 n f m w h cg cs (k + 1) (addG a v G).length (hG (addG a v G))) → I x s') (hno : ¬(atG a G < G.length ∧ (G.getD (atG a G) g0).a = a)) :
    M Tryd.prog G0 (Post res42 [] R) [Item.ir ir42_C1, Item.ir ir42_E1, Item.ir (Ir.seq ir42_C2 ir42_C3), Item.bend 1, Item.ir ir42_T3, .lend (I x), Item.bend 0, Item.ir ir42_T5] (st_sA s1 n f m w h cg cs k G.length (hG G) (atG a G)) := by
  have fin := spG_C2 (R := R) s1 n f m w h cg cs k I x G a v hkm hm hcg hcs ha hv hvr hok hlen hI
  have hmid : midG a G = G.take (atG a G) ++ ⟨a, 0, 0⟩ :: G.drop (atG a G) := by unfold midG; rw [if_neg hno]
  have hatl := atG_le a G
  have hins := fun i j => hG_ins (G := G) (g := ⟨a, 0, 0⟩) hatl i j
  have hlM : (midG a G).length = G.length + 1 := by rw [hmid]; simp; omega
  rw [← hmid] at hins
  generalize midG a G = M at *
  generalize atG a G = l at *
  refine Go.Gw.M.by [] [] [] ?_ (evr_sC1 s1 n f m w h cg cs k G.length (hG G) I x l) ?_
  · simp [st_sA, hbs, St.lowers, St.lower, stLe, leEnv, leObs, obLe, injB, pinC, AV.leC, AV.leCs, PV.leC, PV.Le_v, St.get, St.obj, look, rho, isNew, keptC, renH, Mode.ok, Mode.isZ, PV.isVal, PV.isNilSl, List.all_nil, List.all_cons, List.any_nil, List.any_cons, List.map_nil, List.map_cons, PV.Le_self]
  · simp only [VC.holds_split, VC.holds_need, VC.holds_doneP, VC.holds_done, VC.holds_either, VC.holds_call, VC.holds_callE, VC.holds_lend, VC.holds_stop, VC.holds_fail, decide_eq_true_eq, decide_eq_false_iff_not, Int.toNat_natCast, ha]
    refine ⟨⟨by omega, by omega⟩, ⟨⟨by omega, by omega⟩, hatl, fun _ _ _ _ => rfl⟩, ⟨by omega, by omega⟩, ⟨by omega, by omega⟩, ⟨by omega, by omega⟩, ⟨⟨by omega, by omega⟩, fun i j hi hj => ?_⟩, ⟨⟨by omega, by omega⟩, fun i j hi hj => ?_⟩, ?_⟩
    · obtain rfl : i = 0 := by omega
      obtain rfl : j = 0 := by omega
      rfl
    · simp only [Nat.not_lt_zero, if_false]; rfl
    · refine Go.Gw.M.wk (Wk.mk [] [(12, 122)] [] ?_) fin
      rw [hlM]
      simp only [st_sA]
      have hX : ∀ i, i < G.length + 1 → PV.Le (if i < l then R3 (hG G) i 0 else if i = l then .sl true 1 3 fun i _ => .v (.int .i64 (litI [a, 0, 0] i)) else R3 (hG G) (i - 1) 0) (R3 (hG M) i 0) := fun i hi => by
        by_cases c1 : i < l
        · rw [if_pos c1]
          exact RR_le rfl fun j hj => by rw [hins, if_pos c1]
        · rw [if_neg c1]
          by_cases c2 : i = l
          · rw [if_pos c2]
            refine .sl _ _ (fun e => (by cases e)) 1 _ _ _ _ rfl fun j b hj hb => ?_
            rw [hins, if_neg c1, if_pos c2]
            match j, hj with
            | 0, _ => exact .refl _
            | 1, _ => exact .refl _
            | 2, _ => exact .refl _
          · rw [if_neg c2]
            refine .sl _ _ (fun e => e) 1 _ _ _ _ rfl fun j b hj hb => ?_
            rw [hins, if_neg c1, if_neg c2]; exact .refl _
      generalize R3 (hG M) = XM at *
      generalize R3 (hG G) = XG at *
      simp [hbs, St.lowers, St.lower, stLe, leEnv, leObs, obLe, injB, pinC, AV.leC, AV.leCs, PV.leC, PV.Le_v, St.get, St.obj, look, rho, isNew, keptC, renH, Mode.ok, Mode.isZ, PV.isVal, PV.isNilSl, List.all_nil, List.all_cons, List.any_nil, List.any_cons, List.map_nil, List.map_cons, PV.Le_self]
      refine ⟨by omega, fun i hi => ?_⟩
      have hx := hX i (by omega)
      by_cases c1 : i < l
      · rw [if_pos (show i < l + 1 by omega)]
        simp only [c1, if_true] at hx ⊢
        exact hx
      · by_cases c2 : i = l
        · rw [if_pos (show i < l + 1 by omega)]
          simp only [c2, Nat.lt_irrefl, if_false, if_true, Nat.sub_self, setG, cellSet, and_self] at hx ⊢
          exact hx
        · rw [if_neg (show ¬ i < l + 1 by omega), show i - (l + 1) + l = i - 1 by omega]
          simp only [c1, c2, if_false] at hx
          exact hx
theorem spG_T {R : AV → List (Nat × Ob) → Prop} (s1 : ByteArray) (n : Nat) (f : Nat → ByteArray) (m : Nat) (w : Nat → Nat) (h : Nat → Nat → Int) (cg cs : Int) (k : Nat) (I : Nat × List Gr → St → Prop) (x : Nat × List Gr) (G : List Gr) (a v : Int) (hkm : k < m) (hm : m ≤ 16) (hcg : 0 ≤ cg ∧ cg.toNat < w k) (hcs : 0 ≤ cs ∧ cs.toNat < w k) (ha : h k cg.toNat = a) (hv : h k cs.toNat = v) (hvr : -100000 ≤ v ∧ v ≤ 100000) (hok : GrOk (k : Int) G) (hlen : G.length ≤ 16)
    (hI : ∀ s', Wk s' (st_sG s1 n f m w h cg cs (k + 1) (addG a v G).length (hG (addG a v G))) → I x s') :
    M Tryd.prog G0 (Post res42 [] R) [Item.ir ir42_T2, Item.bend 1, Item.ir ir42_T3, .lend (I x), Item.bend 0, Item.ir ir42_T5] (st_sA s1 n f m w h cg cs k G.length (hG G) (atG a G)) := by
  have fin1 := spG_C1 (R := R) s1 n f m w h cg cs k I x G a v hkm hm hcg hcs ha hv hvr hok hlen hI
  have fin2 := spG_C2 (R := R) s1 n f m w h cg cs k I x G a v hkm hm hcg hcs ha hv hvr hok hlen hI
  have hatl := atG_le a G
  have hsame : ∀ i, PV.Le (cellSet (R3 (hG G)) (atG a G) 0 (.sl false 1 3 fun c _ => PI (hG G (atG a G) c)) i 0) (R3 (hG G) i 0) := R3_same
  have hmid : (atG a G < G.length ∧ (G.getD (atG a G) g0).a = a) → midG a G = G := fun h => by unfold midG; rw [if_pos h]
  have ea : hG G (atG a G) 0 = (G.getD (atG a G) g0).a := rfl
  generalize atG a G = l at *
  refine Go.Gw.M.by [] [] [] ?_ (evr_sT s1 n f m w h cg cs k G.length (hG G) I x l) ?_
  · simp [st_sA, hbs, St.lowers, St.lower, stLe, leEnv, leObs, obLe, injB, pinC, AV.leC, AV.leCs, PV.leC, PV.Le_v, St.get, St.obj, look, rho, isNew, keptC, renH, Mode.ok, Mode.isZ, PV.isVal, PV.isNilSl, List.all_nil, List.all_cons, List.any_nil, List.any_cons, List.map_nil, List.map_cons, PV.Le_self]
  · simp only [VC.holds_split, VC.holds_need, VC.holds_doneP, VC.holds_done, VC.holds_either, VC.holds_call, VC.holds_callE, VC.holds_lend, VC.holds_stop, VC.holds_fail, decide_eq_true_eq, decide_eq_false_iff_not, Int.toNat_natCast, ha, ea]
    refine ⟨fun h1 => ?_, fun h1 => ⟨⟨by omega, ?_⟩, ?_, ⟨by decide, by decide⟩, by decide, ⟨by omega, by omega⟩, ⟨by omega, by omega⟩, fun h2 => ?_, fun h2 => ?_⟩⟩
    · have : (l : Int) = G.length := by simpa using h1
      refine Go.Gw.M.wk (Wk.mk [] [] [] ?_) (fin1 fun h => by omega)
      simp only [st_sA]
      generalize R3 (hG G) = XG at *
      simp [hbs, St.lowers, St.lower, stLe, leEnv, leObs, obLe, injB, pinC, AV.leC, AV.leCs, PV.leC, PV.Le_v, St.get, St.obj, look, rho, isNew, keptC, renH, Mode.ok, Mode.isZ, PV.isVal, PV.isNilSl, List.all_nil, List.all_cons, List.any_nil, List.any_cons, List.map_nil, List.map_cons, PV.Le_self]
    · have : ¬ (l : Int) = G.length := by simpa using h1
      omega
    · have : ¬ (l : Int) = G.length := by simpa using h1
      omega
    · have : (G.getD l g0).a ≠ a := by simpa using h2
      refine Go.Gw.M.wk (Wk.mk [] [] [] ?_) (fin1 fun h => this h.2)
      simp only [st_sA]
      generalize R3 (hG G) = XG at *
      simp [hbs, St.lowers, St.lower, stLe, leEnv, leObs, obLe, injB, pinC, AV.leC, AV.leCs, PV.leC, PV.Le_v, St.get, St.obj, look, rho, isNew, keptC, renH, Mode.ok, Mode.isZ, PV.isVal, PV.isNilSl, List.all_nil, List.all_cons, List.any_nil, List.any_cons, List.map_nil, List.map_cons, PV.Le_self]
      exact fun i hi => hsame i
    · have h3 : ¬ (l : Int) = G.length := by simpa using h1
      have h4 : (G.getD l g0).a = a := by simpa using h2
      rw [hmid ⟨by omega, h4⟩] at fin2
      refine Go.Gw.M.wk (Wk.mk [] [] [] ?_) fin2
      simp only [st_sA]
      generalize R3 (hG G) = XG at *
      simp [hbs, St.lowers, St.lower, stLe, leEnv, leObs, obLe, injB, pinC, AV.leC, AV.leCs, PV.leC, PV.Le_v, St.get, St.obj, look, rho, isNew, keptC, renH, Mode.ok, Mode.isZ, PV.isVal, PV.isNilSl, List.all_nil, List.all_cons, List.any_nil, List.any_cons, List.map_nil, List.map_cons, PV.Le_self]
      exact fun i hi => hsame i
/-- The names of groups are names of a table only if the group's name is another one. -/
theorem gnames_ok {s1 : ByteArray} {k : Nat} {w : Nat → Nat} {H : Nat → Nat → Int} (h : tableB 3 (gNm s1) k w H = true) : (s1.toList == tCount.toList) = false ∧ (s1.toList == tTotal.toList) = false := by
  simp only [tableB, namesB, Bool.and_eq_true] at h
  have hc := allB_iff.1 h.1.1.1
  have h1 := hc 1 (by decide)
  have h2 := hc 2 (by decide)
  simp only [colB, Bool.and_eq_true, hasT, Bool.not_not] at h1 h2
  have k1 := allB_iff.1 h1.2 0 (by decide)
  have k2 := allB_iff.1 h2.2 0 (by decide)
  have e0 : gNm s1 0 = s1 := rfl
  have e1 : gNm s1 1 = tCount := rfl
  have e2 : gNm s1 2 = tTotal := rfl
  rw [e0, e1] at k1
  rw [e0, e2] at k2
  generalize tCount.toList = A at *
  generalize tTotal.toList = B at *
  generalize s1.toList = C at *
  simp only [Bool.not_eq_true', beq_eq_false_iff_ne, ne_eq] at k1 k2 ⊢
  exact ⟨fun e => k1 e.symm, fun e => k2 e.symm⟩
theorem c_spG (n : Nat) (f : Nat → ByteArray) (m : Nat) (w : Nat → Nat) (h : Nat → Nat → Int) (s1 s2 : ByteArray) (ok : TaOk n f m w) (hs : s1.size ≤ 1048576) : PObj Tryd.prog G0 42 [TA false false n f m w h, AT s1, AT s2] [] (gpR n f m w h s1 s2) (gpH n f m w h s1 s2) := by
  refine PObj.by chk42 rfl (ev_spG n f m w h s1 s2) ?_
  simp only [VC.holds_split, VC.holds_need, VC.holds_doneP, VC.holds_done, VC.holds_either, VC.holds_call, VC.holds_callE, VC.holds_lend, VC.holds_stop, VC.holds_fail, decide_eq_true_eq, decide_eq_false_iff_not]
  have c1 := colT_has f s1 n
  have c2 := colT_has f s2 n
  refine ⟨c_ownT _ _ _ _ _ ok.hn ok.hm ok.hw, c_spTV _ _ _ _ _ _ _ ok.hn ok.hf ok.hm ok.hw, fun h1 => ?_, fun h1 => ⟨c_l1C _ _ _ _ ok.hn, fun h2 => ?_, fun h2 => ⟨c_l1C _ _ _ _ ok.hn, fun h3 => ?_, fun h3 => ⟨c_l1C _ _ _ _ ok.hn, c_l1C _ _ _ _ ok.hn, ?_⟩⟩⟩⟩
  · have e : gpB n f m w h s1 s2 = false := by simp only [gpB, (by simpa using h1 : tableB n f m w h = false), Bool.false_and]
    obtain ⟨e1, e2⟩ := gp_no e
    simp only [gpR, gpH, e, e1, e2]
    refine ResOk.mk [] [] [0, 1] _ _ ?_ ⟨rfl, rfl⟩
    simp [doneC, resOf, resAV, tup, pinR, PV.Le_self, hbs, St.lowers, St.lower, stLe, leEnv, leObs, obLe, injB, pinC, AV.leC, AV.leCs, PV.leC, PV.Le_v, St.get, St.obj, look, rho, isNew, keptC, renH, Mode.ok, Mode.isZ, PV.isVal, PV.isNilSl, List.all_nil, List.all_cons, List.any_nil, List.any_cons, List.map_nil, List.map_cons, res42]
  · have e : gpB n f m w h s1 s2 = false := by
      have : hasT f s1 n = false := by rw [← c1]; simp; omega
      simp only [gpB, gnB, this, Bool.false_and, Bool.and_false]
    obtain ⟨e1, e2⟩ := gp_no e
    simp only [gpR, gpH, e, e1, e2]
    refine ResOk.mk [] [] [0, 1] _ _ ?_ ⟨rfl, rfl⟩
    simp [doneC, resOf, resAV, tup, pinR, PV.Le_self, hbs, St.lowers, St.lower, stLe, leEnv, leObs, obLe, injB, pinC, AV.leC, AV.leCs, PV.leC, PV.Le_v, St.get, St.obj, look, rho, isNew, keptC, renH, Mode.ok, Mode.isZ, PV.isVal, PV.isNilSl, List.all_nil, List.all_cons, List.any_nil, List.any_cons, List.map_nil, List.map_cons, res42]
  · have e : gpB n f m w h s1 s2 = false := by
      have : hasT f s2 n = false := by rw [← c2]; simp; omega
      simp only [gpB, gnB, this, Bool.false_and, Bool.and_false]
    obtain ⟨e1, e2⟩ := gp_no e
    simp only [gpR, gpH, e, e1, e2]
    refine ResOk.mk [] [] [0, 1] _ _ ?_ ⟨rfl, rfl⟩
    simp [doneC, resOf, resAV, tup, pinR, PV.Le_self, hbs, St.lowers, St.lower, stLe, leEnv, leObs, obLe, injB, pinC, AV.leC, AV.leCs, PV.leC, PV.Le_v, St.get, St.obj, look, rho, isNew, keptC, renH, Mode.ok, Mode.isZ, PV.isVal, PV.isNilSl, List.all_nil, List.all_cons, List.any_nil, List.any_cons, List.map_nil, List.map_cons, res42]
  · have ht : tableB n f m w h = true := by simpa using h1
    have hc1 : 0 ≤ colT f s1 n := by omega
    have hc2 : 0 ≤ colT f s2 n := by omega
    have hh1 : hasT f s1 n = true := by rw [← c1]; simpa using hc1
    have hh2 : hasT f s2 n = true := by rw [← c2]; simpa using hc2
    have hm := tab_m ht
    have hw := tab_w ht
    have l1 := (colT_lt f s1 n).2
    have l2 := (colT_lt f s2 n).2
    have hval : ∀ i, i < m → -100000 ≤ h i (colT f s2 n).toNat ∧ h i (colT f s2 n).toNat ≤ 100000 := fun i hi => tab_v ht hi (by omega)
    have hGdef : grpL (prL m (fun i => h i (colT f s1 n).toNat) (fun i => h i (colT f s2 n).toNat)) = gpA n f m h s1 s2 := rfl
    generalize hcg : colT f s1 n = cg at *
    generalize hcs : colT f s2 n = cs at *
    refine loop_by (fun x : Nat × List Gr => st_sG s1 n f m w h cg cs x.1 x.2.length (hG x.2)) (fun x => x.1 ≤ m ∧ x.2 = grpL (prL x.1 (fun i => h i cg.toNat) (fun i => h i cs.toNat))) (fun x => m - x.1) (0, []) [(1015, .f), (2015, .f)] [] [12] ⟨Nat.zero_le _, rfl⟩ ?_ (fun I x => evr_sG s1 n f m w h cg cs x.1 x.2.length (hG x.2) I x) fun x hx => ?_
    · simp [st_sG, hbs, St.lowers, St.lower, stLe, leEnv, leObs, obLe, injB, pinC, AV.leC, AV.leCs, PV.leC, PV.Le_v, St.get, St.obj, look, rho, isNew, keptC, renH, Mode.ok, Mode.isZ, PV.isVal, PV.isNilSl, List.all_nil, List.all_cons, List.any_nil, List.any_cons, List.map_nil, List.map_cons, PV.Le_self, Mode.low, St.setOb, ins]
    · obtain ⟨k, G⟩ := x
      obtain ⟨hk, hGk⟩ := hx
      simp only [] at hk hGk
      have ek : IntKind.i64.wrap ((k : Int) + 1) = ((k + 1 : Nat) : Int) := wrap_in (by omega) (by omega)
      have hok : GrOk (k : Int) G := hGk ▸ grp_ok fun i hi => hval i (by omega)
      have hlen : G.length ≤ 16 := by
        have := grpL_len (prL k (fun i => h i cg.toNat) (fun i => h i cs.toNat))
        rw [← hGk] at this
        simp only [prL, List.length_map, List.length_range] at this
        omega
      simp only [VC.holds_split, VC.holds_need, VC.holds_doneP, VC.holds_done, VC.holds_either, VC.holds_call, VC.holds_callE, VC.holds_lend, VC.holds_stop, VC.holds_fail, decide_eq_true_eq, decide_eq_false_iff_not, Int.toNat_natCast]
      refine ⟨fun h0 => ?_, fun h0 => ?_⟩
      · have hkm : k < m := by omega
        have hwk := hw k hkm
        have hnext : addG (h k cg.toNat) (h k cs.toNat) G = grpL (prL (k + 1) (fun i => h i cg.toNat) (fun i => h i cs.toNat)) := by rw [grp_succ, ← hGk]
        have hvk := hval k hkm
        generalize hadef : h k cg.toNat = a at *
        generalize hvdef : h k cs.toNat = v at *
        have okM : GrOk (k : Int) (midG a G) := hok.mid (by omega) _
        have hadd0 := addG_eq a v G
        have hml := midG_len a G
        refine loop_by (fun j => st_sA s1 n f m w h cg cs k G.length (hG G) j) (fun j => j ≤ atG a G) (fun j => atG a G - j) 0 [] [] [] (Nat.zero_le _) ?_ (fun J j => evr_sA s1 n f m w h cg cs k G.length (hG G) _ _ J j) fun j hj => ?_
        · simp [st_sA, hbs, St.lowers, St.lower, stLe, leEnv, leObs, obLe, injB, pinC, AV.leC, AV.leCs, PV.leC, PV.Le_v, St.get, St.obj, look, rho, isNew, keptC, renH, Mode.ok, Mode.isZ, PV.isVal, PV.isNilSl, List.all_nil, List.all_cons, List.any_nil, List.any_cons, List.map_nil, List.map_cons, PV.Le_self]
        · have ej : IntKind.i64.wrap ((j : Int) + 1) = ((j + 1 : Nat) : Int) := wrap_in (by omega) (by omega)
          have hatl := atG_le a G
          have hsame : ∀ i, PV.Le (cellSet (R3 (hG G)) j 0 (.sl false 1 3 fun c _ => PI (hG G j c)) i 0) (R3 (hG G) i 0) := R3_same
          simp only [VC.holds_split, VC.holds_need, VC.holds_doneP, VC.holds_done, VC.holds_either, VC.holds_call, VC.holds_callE, VC.holds_lend, VC.holds_stop, VC.holds_fail, decide_eq_true_eq, decide_eq_false_iff_not, Int.toNat_natCast, hadef]
          have hcg2 : 0 ≤ cg ∧ cg.toNat < w k := by omega
          have hcs2 : 0 ≤ cs ∧ cs.toNat < w k := by omega
          refine ⟨fun h4 => ⟨⟨by omega, by omega⟩, by omega, ⟨by decide, by decide⟩, by decide, ⟨by omega, by omega⟩, ⟨by omega, by omega⟩, fun h5 => Again.mk (j + 1) [] [] [] ?_ ?_ ?_, fun h5 => ?_⟩, fun h4 => ?_⟩
          · have h6 : (G.getD j g0).a < a := h5
            have : j ≠ atG a G := fun e => by
              have := atG_ge (a := a) (G := G) (by omega)
              rw [← e] at this; omega
            omega
          · have h6 : (G.getD j g0).a < a := h5
            have : j ≠ atG a G := fun e => by
              have := atG_ge (a := a) (G := G) (by omega)
              rw [← e] at this; omega
            omega
          · simp only [st_sA]
            generalize R3 (hG G) = XG at *
            simp [hbs, St.lowers, St.lower, stLe, leEnv, leObs, obLe, injB, pinC, AV.leC, AV.leCs, PV.leC, PV.Le_v, St.get, St.obj, look, rho, isNew, keptC, renH, Mode.ok, Mode.isZ, PV.isVal, PV.isNilSl, List.all_nil, List.all_cons, List.any_nil, List.any_cons, List.map_nil, List.map_cons, PV.Le_self, ej]
            exact fun i hi => hsame i
          · have h6 : ¬ (G.getD j g0).a < a := h5
            have hje : j = atG a G := by
              by_cases e : j < atG a G
              · exact absurd (atG_lt e) h6
              · omega
            subst hje
            refine Go.Gw.M.wk (Wk.mk [] [] [] ?_) (spG_T s1 n f m w h cg cs k _ _ G a v hkm hm hcg2 hcs2 hadef hvdef hvk hok hlen fun s' hw => ⟨(k + 1, addG a v G), ⟨by simp only []; omega, hnext⟩, by simp only []; omega, hw⟩)
            simp only [st_sA]
            generalize R3 (hG G) = XG at *
            simp [hbs, St.lowers, St.lower, stLe, leEnv, leObs, obLe, injB, pinC, AV.leC, AV.leCs, PV.leC, PV.Le_v, St.get, St.obj, look, rho, isNew, keptC, renH, Mode.ok, Mode.isZ, PV.isVal, PV.isNilSl, List.all_nil, List.all_cons, List.any_nil, List.any_cons, List.map_nil, List.map_cons, PV.Le_self]
            exact fun i hi => hsame i
          · have hje : j = atG a G := by omega
            subst hje
            refine Go.Gw.M.wk (Wk.mk [] [] [] ?_) (spG_T s1 n f m w h cg cs k _ _ G a v hkm hm hcg2 hcs2 hadef hvdef hvk hok hlen fun s' hw => ⟨(k + 1, addG a v G), ⟨by simp only []; omega, hnext⟩, by simp only []; omega, hw⟩)
            simp only [st_sA]
            generalize R3 (hG G) = XG at *
            simp [hbs, St.lowers, St.lower, stLe, leEnv, leObs, obLe, injB, pinC, AV.leC, AV.leCs, PV.leC, PV.Le_v, St.get, St.obj, look, rho, isNew, keptC, renH, Mode.ok, Mode.isZ, PV.isVal, PV.isNilSl, List.all_nil, List.all_cons, List.any_nil, List.any_cons, List.map_nil, List.map_cons, PV.Le_self]
      · have hkm : k = m := by omega
        have hfin : G = gpA n f m h s1 s2 := by rw [hGk, hkm]; exact hGdef
        have hgn : tableB 3 (gNm s1) G.length (fun _ => 3) (hG G) = true → gnB n f s1 s2 = true := fun h5 => by
          obtain ⟨q1, q2⟩ := gnames_ok h5
          simp only [gnB, hh1, hh2, q1, q2, Bool.not_false, Bool.and_self]
        have hgp : gpB n f m w h s1 s2 = (tableB n f m w h && gnB n f s1 s2 && tableB 3 (gNm s1) G.length (fun _ => 3) (hG G)) := by rw [hfin]; rfl
        have hgM : gpM n f m w h s1 s2 = if gpB n f m w h s1 s2 then G.length else 0 := by rw [hfin]; rfl
        have hgH : hG (gpA n f m h s1 s2) = hG G := by rw [hfin]
        refine ⟨c_spTV _ _ _ _ _ _ _ (by decide) (gNm_size hs) (by omega) (fun _ _ => by decide), fun h3 => ?_, fun h3 => ?_⟩
        · have e : gpB n f m w h s1 s2 = false := by rw [hgp]; simp only [(by simpa using h3 : tableB 3 (gNm s1) G.length (fun _ => 3) (hG G) = false), Bool.and_false]
          obtain ⟨e1, e2⟩ := gp_no e
          simp only [gpR, gpH, e, e1, e2]
          refine ResOk.mk [] [] [0, 1] _ _ ?_ ⟨rfl, rfl⟩
          simp [doneC, resOf, resAV, tup, pinR, PV.Le_self, hbs, St.lowers, St.lower, stLe, leEnv, leObs, obLe, injB, pinC, AV.leC, AV.leCs, PV.leC, PV.Le_v, St.get, St.obj, look, rho, isNew, keptC, renH, Mode.ok, Mode.isZ, PV.isVal, PV.isNilSl, List.all_nil, List.all_cons, List.any_nil, List.any_cons, List.map_nil, List.map_cons, res42]
        · have h4 : tableB 3 (gNm s1) G.length (fun _ => 3) (hG G) = true := by simpa using h3
          have e : gpB n f m w h s1 s2 = true := by rw [hgp]; simp only [ht, hgn h4, h4, Bool.and_self]
          have e1 := (gp_yes e).1
          rw [e, if_pos rfl] at hgM
          rw [show gpH n f m w h s1 s2 = taH 3 (gNm s1) G.length (fun _ => 3) (hG G) by simp only [gpH, e1, hgM, hgH]]
          simp only [gpR, taH, R3, e]
          generalize RR (fun _ => 3) (hG G) = X at *
          refine ResOk.mk [] [(0, 43), (1, 12)] [] _ _ ?_ ⟨rfl, rfl⟩
          simp [doneC, resOf, resAV, tup, pinR, PV.Le_self, hbs, St.lowers, St.lower, stLe, leEnv, leObs, obLe, injB, pinC, AV.leC, AV.leCs, PV.leC, PV.Le_v, St.get, St.obj, look, rho, isNew, keptC, renH, Mode.ok, Mode.isZ, PV.isVal, PV.isNilSl, List.all_nil, List.all_cons, List.any_nil, List.any_cons, List.map_nil, List.map_cons, res42]
end Go.Gw
