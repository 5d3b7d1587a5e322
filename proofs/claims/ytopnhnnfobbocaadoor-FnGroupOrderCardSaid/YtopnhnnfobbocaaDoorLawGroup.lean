/- Groups do not depend on the order: the law FnGroupOrder; with no condition. -/
import Derived.Test.YtopnhnnfobbocaaDoorLawSort
import Derived.Test.YtopnhnnfobbocaaDoorGroupS
import Derived.KernelRfl
namespace Go.Gw
open Go Go.Proofs
set_option linter.unusedSimpArgs false
set_option linter.unusedVariables false
set_option maxRecDepth 100000
def ir40_D1 : Ir :=
  (.reg [57, 58, 59, 60, 61, 62] [o 57 (.fadr 1 (tt 6)),
      o 58 (.load false 1 (tt 57)),
      o 59 (.mov (tt 7)),
      o 60 (.idx 1 (tt 58) (tt 59)),
      o 61 (.load false 1 (tt 60)),
      o 62 (.idx 1 (tt 61) (ci 0)),
      on (.store 1 (tt 62) (ci 100000))])
def ir40_E1 : Ir :=
  (.reg [48, 49] [o 48 (.mov (tt 7)),
    o 49 (.bin .add (tt 48) (ci 1)),
    o 7 (.mov (tt 49))])
def ir40_L1 : Ir :=
  (.seq
  (.seq
  (.reg [43, 44, 45, 46] [o 43 (.mov (tt 7)),
    o 44 (.fadr 1 (tt 6)),
    o 45 (.load false 1 (tt 44)),
    o 46 (.len (tt 45)),
    o 47 (.bin .lss (tt 43) (tt 46))])
  (.cond (tt 47)
   .skip
   (.exit 0)))
  (.seq
  (.block 1
   (.seq
   (.reg [50, 51, 52, 53, 54, 55] [o 50 (.fadr 1 (tt 6)),
     o 51 (.load false 1 (tt 50)),
     o 52 (.mov (tt 7)),
     o 53 (.idx 1 (tt 51) (tt 52)),
     o 54 (.load false 1 (tt 53)),
     o 55 (.len (tt 54)),
     o 56 (.bin .gtr (tt 55) (ci 0))])
   (.cond (tt 56)
    ir40_D1
    .skip)))
  ir40_E1))
def ir40_T2 : Ir :=
  (.seq
  (.dreg [63, 64, 65, 66, 67, 68, 69, 70, 71, 72, 73, 74, 75, 76, 77, 78, 79] [0, 0, 0, 0, 8, 28, 60, 126, 254, 0, 0, 0, 2072, 7192, 15384, 32280, 65048, 6169, 137727, 524287] [(0, 1063), (0, 2063), (1, 64), (2, 65), (4, 1067), (4, 2067), (4, 3067), (4, 4067), (4, 5067), (4, 6067), (4, 7067), (4, 8067), (6, 1069), (8, 1071), (9, 72), (10, 73), (12, 1075), (12, 2075), (12, 3075), (12, 4075), (12, 5075), (12, 6075), (12, 7075), (12, 8075), (14, 1077), (16, 1079)] [o 63 (.load true 2 (tt 6)),
    o 64 (.mkSl 1 3 [(.string ⟨#[]⟩)] [(0, (.const (.string ⟨#[97]⟩))), (1, (.const (.string ⟨#[98]⟩))), (2, (.const (.string ⟨#[120]⟩)))]),
    o 65 (.mkSl 1 6 [(.int .i64 0)] [(0, (ci 0)), (1, (ci 0)), (2, (ci 0)), (3, (ci 1)), (4, (ci 1)), (5, (ci 2))]),
    o 66 (.mov (tt 5)),
    o 67 (.call 87 [(tt 66), (ci 6)]),
    o 68 (.idx 1 (tt 65) (tt 67)),
    o 69 (.load false 1 (tt 68)),
    o 70 (.idx 1 (tt 64) (tt 69)),
    o 71 (.load false 1 (tt 70)),
    o 72 (.mkSl 1 3 [(.string ⟨#[]⟩)] [(0, (.const (.string ⟨#[97]⟩))), (1, (.const (.string ⟨#[98]⟩))), (2, (.const (.string ⟨#[120]⟩)))]),
    o 73 (.mkSl 1 6 [(.int .i64 0)] [(0, (ci 0)), (1, (ci 0)), (2, (ci 1)), (3, (ci 1)), (4, (ci 1)), (5, (ci 2))]),
    o 74 (.mov (tt 5)),
    o 75 (.call 87 [(tt 74), (ci 6)]),
    o 76 (.idx 1 (tt 73) (tt 75)),
    o 77 (.load false 1 (tt 76)),
    o 78 (.idx 1 (tt 72) (tt 77)),
    o 79 (.load false 1 (tt 78)),
    on (.store 2 (tt 2) (tt 63)),
    o 3 (.mov (tt 71)),
    o 4 (.mov (tt 79))])
  .ret)
def ir40_C1 : Ir :=
  (.dreg [28, 29, 30, 31, 32, 33, 34, 35, 36, 37, 38, 39, 40] [0, 0, 2, 0, 8, 30, 62, 0, 128, 0, 536, 1944, 3992, 1561, 9855, 32767] [(0, 1028), (0, 2028), (2, 1030), (4, 1032), (4, 2032), (4, 3032), (4, 4032), (4, 5032), (4, 6032), (4, 7032), (4, 8032), (6, 1034), (8, 1036), (10, 1038), (10, 2038), (10, 3038), (10, 4038), (10, 5038), (10, 6038), (10, 7038), (10, 8038), (12, 1040)] [o 28 (.load true 2 (tt 6)),
     o 29 (.fadr 0 (tt 6)),
     o 30 (.load false 1 (tt 29)),
     o 31 (.mov (tt 5)),
     o 32 (.call 87 [(tt 31), (ci 2)]),
     o 33 (.idx 1 (tt 30) (tt 32)),
     o 34 (.load false 1 (tt 33)),
     o 35 (.fadr 0 (tt 6)),
     o 36 (.load false 1 (tt 35)),
     o 37 (.mov (tt 5)),
     o 38 (.call 87 [(tt 37), (ci 2)]),
     o 39 (.idx 1 (tt 36) (tt 38)),
     o 40 (.load false 1 (tt 39)),
     on (.store 2 (tt 2) (tt 28)),
     o 3 (.mov (tt 34)),
     o 4 (.mov (tt 40))])
def ir40 : Ir :=
  (.seq
  (.reg [] [o 2 (.alloc [(.slice none 0 0), (.slice none 0 0)]),
    o 3 (.mov (.const (.string ⟨#[]⟩))),
    o 4 (.mov (.const (.string ⟨#[]⟩)))])
  (.seq
  (.reg [8, 9] [o 8 (.mov (tt 0)),
    o 9 (.call 85 [(tt 8)]),
    o 5 (.mov (tt 9))])
  (.seq
  (.reg [10, 11] [o 10 (.mov (tt 5)),
    o 11 (.call 86 [(tt 10), (ci 0), (ci 9)]),
    o 6 (.alloc [(.slice none 0 0), (.slice none 0 0)]),
    on (.store 2 (tt 6) (tt 11))])
  (.seq
  (.seq
  (.reg [12, 13, 14, 15, 16, 17, 18] [o 12 (.mov (tt 5)),
    o 13 (.call 106 [(tt 12), (ci 9)]),
    o 14 (.mov (tt 13)),
    og 15 14 true (.fadr 0 (tt 6)),
    og 16 14 true (.load false 1 (tt 15)),
    og 17 14 true (.len (tt 16)),
    og 18 14 true (.bin .gtr (tt 17) (ci 1)),
    o 19 (.pick (tt 14) (tt 18) (cb false))])
  (.cond (tt 19)
   (.seq
   (.dreg [20, 21, 22, 23, 24, 25, 26, 27] [0, 1, 0, 0, 8, 28, 60, 127, 255] [(1, 1021), (2, 22), (4, 1024), (4, 2024), (4, 3024), (4, 4024), (4, 5024), (4, 6024), (4, 7024), (4, 8024), (6, 1026)] [o 20 (.fadr 0 (tt 6)),
     o 21 (.load false 1 (tt 20)),
     o 22 (.mkSl 1 2 [(.string ⟨#[]⟩)] [(0, (.const (.string ⟨#[99, 111, 117, 110, 116]⟩))), (1, (.const (.string ⟨#[116, 111, 116, 97, 108]⟩)))]),
     o 23 (.mov (tt 5)),
     o 24 (.call 87 [(tt 23), (ci 2)]),
     o 25 (.idx 1 (tt 22) (tt 24)),
     o 26 (.load false 1 (tt 25)),
     o 27 (.idx 1 (tt 21) (ci 1)),
     on (.store 1 (tt 27) (tt 26))])
   (.seq
   ir40_C1
   .ret))
   .skip))
  (.seq
  (.seq
  (.reg [41] [o 41 (.mov (tt 5)),
    o 42 (.call 106 [(tt 41), (ci 9)])])
  (.cond (tt 42)
   (.seq
   (.reg [] [o 7 (.mov (ci 0))])
   (.block 0
    (.loop ir40_L1)))
   .skip))
  ir40_T2)))))
def keep40 : List Nat := [0, 2, 3, 4, 5, 6, 7, 19, 42, 47, 56]
def res40 : List RI := [.cell true 2 2, .tmp 3, .tmp 4]
theorem chk40 : chk Tryd.prog 40 1 keep40 = some (ir40, res40) := by kernel_rfl
def ir8 : Ir :=
  (.seq
  (.reg [] [o 2 (.mov (cb false))])
  (.seq
  (.seq
  (.reg [12, 13] [o 12 (.mov (tt 0)),
    o 13 (.len (tt 12)),
    o 14 (.bin .gtr (tt 13) (ci 1048576))])
  (.cond (tt 14)
   (.seq
   (.reg [] [o 2 (.mov (cb true))])
   .ret)
   .skip))
  (.seq
  (.reg [16, 17, 15, 18, 19, 20] [o 16 (.mov (tt 0)),
    o 17 (.call 40 [(tt 16)]),
    o 15 (.mov (tt 17)),
    o 18 (.ext (tt 15) 0),
    o 19 (.ext (tt 15) 1),
    o 20 (.ext (tt 15) 2),
    o 3 (.alloc [(.slice none 0 0), (.slice none 0 0)]),
    on (.store 2 (tt 3) (tt 18)),
    o 4 (.mov (tt 19)),
    o 5 (.mov (tt 20))])
  (.seq
  (.reg [22, 23, 24, 25, 21, 26, 27] [o 22 (.load true 2 (tt 3)),
    o 23 (.mov (tt 4)),
    o 24 (.mov (tt 5)),
    o 25 (.call 41 [(tt 22), (tt 23), (tt 24)]),
    o 21 (.mov (tt 25)),
    o 26 (.ext (tt 21) 0),
    o 27 (.ext (tt 21) 1),
    o 6 (.alloc [(.slice none 0 0), (.slice none 0 0)]),
    on (.store 2 (tt 6) (tt 26)),
    o 7 (.mov (tt 27))])
  (.seq
  (.reg [29, 30, 31, 32, 28, 33, 34] [o 29 (.load true 2 (tt 3)),
    o 30 (.mov (tt 4)),
    o 31 (.mov (tt 5)),
    o 32 (.call 42 [(tt 29), (tt 30), (tt 31)]),
    o 28 (.mov (tt 32)),
    o 33 (.ext (tt 28) 0),
    o 34 (.ext (tt 28) 1),
    o 8 (.alloc [(.slice none 0 0), (.slice none 0 0)]),
    on (.store 2 (tt 8) (tt 33)),
    o 9 (.mov (tt 34))])
  (.seq
  (.seq
  (.reg [35, 36, 37, 38, 39, 40, 41, 42] [o 35 (.load true 2 (tt 6)),
    o 36 (.load true 2 (tt 8)),
    o 37 (.call 31 [(tt 35), (tt 36)]),
    o 38 (.un .not (tt 37)),
    o 39 (.mov (tt 38)),
    og 40 39 false (.mov (tt 7)),
    og 41 39 false (.mov (tt 9)),
    og 42 39 false (.binB .neq (tt 40) (tt 41)),
    o 43 (.pick (tt 39) (cb true) (tt 42))])
  (.cond (tt 43)
   (.seq
   (.reg [] [o 2 (.mov (cb false))])
   .ret)
   .skip))
  (.seq
  (.seq
  (.reg [44] [o 44 (.mov (tt 7)),
    o 45 (.un .not (tt 44))])
  (.cond (tt 45)
   (.seq
   (.reg [46] [o 46 (.call 19 []),
     o 2 (.mov (tt 46))])
   .ret)
   .skip))
  (.seq
  (.reg [48, 49, 50, 51, 52, 47, 53, 54] [o 48 (.load true 2 (tt 3)),
    o 49 (.call 30 [(tt 48)]),
    o 50 (.mov (tt 4)),
    o 51 (.mov (tt 5)),
    o 52 (.call 41 [(tt 49), (tt 50), (tt 51)]),
    o 47 (.mov (tt 52)),
    o 53 (.ext (tt 47) 0),
    o 54 (.ext (tt 47) 1),
    o 10 (.alloc [(.slice none 0 0), (.slice none 0 0)]),
    on (.store 2 (tt 10) (tt 53)),
    o 11 (.mov (tt 54))])
  (.seq
  (.reg [55, 56, 57, 58, 59, 60] [o 55 (.mov (tt 11)),
    o 56 (.mov (tt 55)),
    og 57 56 true (.load true 2 (tt 10)),
    og 58 56 true (.load true 2 (tt 6)),
    og 59 56 true (.call 31 [(tt 57), (tt 58)]),
    o 60 (.pick (tt 56) (tt 59) (cb false)),
    o 2 (.mov (tt 60))])
  .ret)))))))))
def keep8 : List Nat := [0, 2, 3, 4, 5, 6, 7, 8, 9, 10, 11, 14, 43, 45]
def res8 : List RI := [.tmp 2]
theorem chk8 : chk Tryd.prog 8 1 keep8 = some (ir8, res8) := by kernel_rfl

theorem ev_dG : ∀ (nn : Bool) (n : Nat) (f : Nat → Int), ev G0 res40 [] (3000 : Nat) (Or.call [] (AV.adr (0 : Nat) (0 : Nat)) [((0 : Nat), RD nn (openN n) f (0 : Nat))] (Or.callE [(1009 : Nat)] DT (DtOk (0 : Nat)) dtR (dtH nn (openN n) f) fun (x : DT) => Or.call [(1009 : Nat)] (AB (oddV (openN n) f x.p (9 : Int))) [((0 : Nat), RD nn (openN n) f (oddP x.p (9 : Int)))] (((Or.call [(1009 : Nat)] (AI (pickV (openN n) f (oddP x.p (9 : Int)) (2 : Int))) [((0 : Nat), RD nn (openN n) f (oddP x.p (9 : Int) + (1 : Nat)))] (Or.stop (7 : Nat))).split (Or.call [(1009 : Nat)] (AB (oddV (openN n) f (oddP x.p (9 : Int)) (9 : Int))) [((0 : Nat), RD nn (openN n) f (oddP (oddP x.p (9 : Int)) (9 : Int)))] (Or.nil.split (Or.stop (1 : Nat))))).lit.lit.lit.lit.split (Or.call [(1009 : Nat)] (AB (oddV (openN n) f (oddP x.p (9 : Int)) (9 : Int))) [((0 : Nat), RD nn (openN n) f (oddP (oddP x.p (9 : Int)) (9 : Int)))] (Or.nil.split (Or.stop (1 : Nat)))).lit.lit.lit.lit.lit))) [Item.ir ir40] (start [AV.p false (PV.sl nn (1 : Nat) n (PB f))] []) = VC.call (85 : Nat) [AV.p false (PV.sl nn (1 : Nat) n (PB f))] [] (AV.adr (0 : Nat) (0 : Nat)) [((0 : Nat), RD nn (openN n) f (0 : Nat))] (VC.callE DT (86 : Nat) [AV.adr (0 : Nat) (0 : Nat), AV.p true (PV.v (Value.int IntKind.i64 (0 : Int))), AV.p true (PV.v (Value.int IntKind.i64 (9 : Int)))] [((0 : Nat), Ob.box [AV.p false (PV.sl nn (1 : Nat) (openN n) (PB f)), AV.p true (PV.v (Value.int IntKind.i64 (↑(0 : Nat) : Int)))])] (DtOk (0 : Nat)) dtR (dtH nn (openN n) f) fun (x : DT) => VC.call (106 : Nat) [AV.adr (0 : Nat) (0 : Nat), AV.p true (PV.v (Value.int IntKind.i64 (9 : Int)))] [((0 : Nat), Ob.box [AV.p false (PV.sl nn (1 : Nat) (openN n) (PB f)), AV.p true (PV.v (Value.int IntKind.i64 (↑x.p : Int)))])] (AB (oddV (openN n) f x.p (9 : Int))) [((0 : Nat), RD nn (openN n) f (oddP x.p (9 : Int)))] (VC.split (oddV (openN n) f x.p (9 : Int)) (VC.split (decide ((1 : Int) < (↑x.n : Int))) (VC.call (87 : Nat) [AV.adr (0 : Nat) (0 : Nat), AV.p true (PV.v (Value.int IntKind.i64 (2 : Int)))] [((0 : Nat), Ob.box [AV.p false (PV.sl nn (1 : Nat) (openN n) (PB f)), AV.p true (PV.v (Value.int IntKind.i64 (↑(oddP x.p (9 : Int)) : Int)))])] (AI (pickV (openN n) f (oddP x.p (9 : Int)) (2 : Int))) [((0 : Nat), RD nn (openN n) f (oddP x.p (9 : Int) + (1 : Nat)))] (VC.need ((0 : Int) ≤ pickV (openN n) f (oddP x.p (9 : Int)) (2 : Int) ∧ (pickV (openN n) f (oddP x.p (9 : Int)) (2 : Int)).toNat < (2 : Nat)) (VC.need ((pickV (openN n) f (oddP x.p (9 : Int)) (2 : Int)).toNat < (2 : Nat)) (VC.need ((0 : Int) ≤ (1 : Int) ∧ Int.toNat (1 : Int) < x.n) (VC.need ((1 : Nat) < x.n) (VC.stop [Item.ir ir40_C1, Item.ir Ir.ret, Item.ir (((Ir.reg [(41 : Nat)] [o (41 : Nat) (IOp.mov (tt (5 : Nat))), o (42 : Nat) (IOp.call (106 : FuncId) [tt (41 : Nat), ci (9 : Int)])]).seq (Ir.cond (tt (42 : Nat)) ((Ir.reg [] [o (7 : Nat) (IOp.mov (ci (0 : Int)))]).seq (Ir.block (0 : Nat) ir40_L1.loop)) Ir.skip)).seq ir40_T2)] (St.mk [((0 : Nat), AV.p false (PV.sl nn (1 : Nat) n (PB f))), ((2 : Nat), AV.adr (2 : Nat) (0 : Nat)), ((3 : Nat), AV.p true (PV.v (Value.string (ByteArray.mk #[])))), ((4 : Nat), AV.p true (PV.v (Value.string (ByteArray.mk #[])))), ((5 : Nat), AV.adr (1009 : Nat) (0 : Nat)), ((6 : Nat), AV.adr (6 : Nat) (0 : Nat)), ((19 : Nat), AV.p true (PV.v (Value.bool (decide ((1 : Int) < (↑x.n : Int))))))] [((2 : Nat), Ob.box [AV.p true (PV.v (Value.slice none (0 : Nat) (0 : Nat))), AV.p true (PV.v (Value.slice none (0 : Nat) (0 : Nat)))]), ((1009 : Nat), Ob.box [AV.p false (PV.sl nn (1 : Nat) (openN n) (PB f)), AV.p true (PV.v (Value.int IntKind.i64 (↑(oddP x.p (9 : Int) + (1 : Nat)) : Int)))]), ((1011 : Nat), Ob.row Mode.u false (1 : Nat) x.n (setG [((1 : Nat), (0 : Nat), PV.v (Value.string (litS [ByteArray.mk #[(99 : UInt8), (111 : UInt8), (117 : UInt8), (110 : UInt8), (116 : UInt8)], ByteArray.mk #[(116 : UInt8), (111 : UInt8), (116 : UInt8), (97 : UInt8), (108 : UInt8)]] (pickV (openN n) f (oddP x.p (9 : Int)) (2 : Int)).toNat)))] (TR x.f)) []), ((2011 : Nat), Ob.row Mode.u false (1 : Nat) x.m (RR x.w x.h) []), ((6 : Nat), Ob.box [AV.own (1011 : Nat), AV.own (2011 : Nat)])]))))))) (VC.call (106 : Nat) [AV.adr (0 : Nat) (0 : Nat), AV.p true (PV.v (Value.int IntKind.i64 (9 : Int)))] [((0 : Nat), Ob.box [AV.p false (PV.sl nn (1 : Nat) (openN n) (PB f)), AV.p true (PV.v (Value.int IntKind.i64 (↑(oddP x.p (9 : Int)) : Int)))])] (AB (oddV (openN n) f (oddP x.p (9 : Int)) (9 : Int))) [((0 : Nat), RD nn (openN n) f (oddP (oddP x.p (9 : Int)) (9 : Int)))] (VC.split (oddV (openN n) f (oddP x.p (9 : Int)) (9 : Int)) (VC.loop ir40_L1 [Item.bend (0 : Nat), Item.ir ir40_T2] (St.mk [((0 : Nat), AV.p false (PV.sl nn (1 : Nat) n (PB f))), ((2 : Nat), AV.adr (2 : Nat) (0 : Nat)), ((3 : Nat), AV.p true (PV.v (Value.string (ByteArray.mk #[])))), ((4 : Nat), AV.p true (PV.v (Value.string (ByteArray.mk #[])))), ((5 : Nat), AV.adr (1009 : Nat) (0 : Nat)), ((6 : Nat), AV.adr (6 : Nat) (0 : Nat)), ((19 : Nat), AV.p true (PV.v (Value.bool (decide ((1 : Int) < (↑x.n : Int)))))), ((42 : Nat), AV.p true (PV.v (Value.bool (oddV (openN n) f (oddP x.p (9 : Int)) (9 : Int))))), ((7 : Nat), AV.p true (PV.v (Value.int IntKind.i64 (0 : Int))))] [((2 : Nat), Ob.box [AV.p true (PV.v (Value.slice none (0 : Nat) (0 : Nat))), AV.p true (PV.v (Value.slice none (0 : Nat) (0 : Nat)))]), ((1009 : Nat), Ob.box [AV.p false (PV.sl nn (1 : Nat) (openN n) (PB f)), AV.p true (PV.v (Value.int IntKind.i64 (↑(oddP (oddP x.p (9 : Int)) (9 : Int)) : Int)))]), ((1011 : Nat), Ob.row Mode.u false (1 : Nat) x.n (TR x.f) []), ((2011 : Nat), Ob.row Mode.u false (1 : Nat) x.m (RR x.w x.h) []), ((6 : Nat), Ob.box [AV.own (1011 : Nat), AV.own (2011 : Nat)])])) (VC.stop [Item.ir ir40_T2] (St.mk [((0 : Nat), AV.p false (PV.sl nn (1 : Nat) n (PB f))), ((2 : Nat), AV.adr (2 : Nat) (0 : Nat)), ((3 : Nat), AV.p true (PV.v (Value.string (ByteArray.mk #[])))), ((4 : Nat), AV.p true (PV.v (Value.string (ByteArray.mk #[])))), ((5 : Nat), AV.adr (1009 : Nat) (0 : Nat)), ((6 : Nat), AV.adr (6 : Nat) (0 : Nat)), ((19 : Nat), AV.p true (PV.v (Value.bool (decide ((1 : Int) < (↑x.n : Int)))))), ((42 : Nat), AV.p true (PV.v (Value.bool (oddV (openN n) f (oddP x.p (9 : Int)) (9 : Int)))))] [((2 : Nat), Ob.box [AV.p true (PV.v (Value.slice none (0 : Nat) (0 : Nat))), AV.p true (PV.v (Value.slice none (0 : Nat) (0 : Nat)))]), ((1009 : Nat), Ob.box [AV.p false (PV.sl nn (1 : Nat) (openN n) (PB f)), AV.p true (PV.v (Value.int IntKind.i64 (↑(oddP (oddP x.p (9 : Int)) (9 : Int)) : Int)))]), ((1011 : Nat), Ob.row Mode.u false (1 : Nat) x.n (TR x.f) []), ((2011 : Nat), Ob.row Mode.u false (1 : Nat) x.m (RR x.w x.h) []), ((6 : Nat), Ob.box [AV.own (1011 : Nat), AV.own (2011 : Nat)])]))))) (VC.call (106 : Nat) [AV.adr (0 : Nat) (0 : Nat), AV.p true (PV.v (Value.int IntKind.i64 (9 : Int)))] [((0 : Nat), Ob.box [AV.p false (PV.sl nn (1 : Nat) (openN n) (PB f)), AV.p true (PV.v (Value.int IntKind.i64 (↑(oddP x.p (9 : Int)) : Int)))])] (AB (oddV (openN n) f (oddP x.p (9 : Int)) (9 : Int))) [((0 : Nat), RD nn (openN n) f (oddP (oddP x.p (9 : Int)) (9 : Int)))] (VC.split (oddV (openN n) f (oddP x.p (9 : Int)) (9 : Int)) (VC.loop ir40_L1 [Item.bend (0 : Nat), Item.ir ir40_T2] (St.mk [((0 : Nat), AV.p false (PV.sl nn (1 : Nat) n (PB f))), ((2 : Nat), AV.adr (2 : Nat) (0 : Nat)), ((3 : Nat), AV.p true (PV.v (Value.string (ByteArray.mk #[])))), ((4 : Nat), AV.p true (PV.v (Value.string (ByteArray.mk #[])))), ((5 : Nat), AV.adr (1009 : Nat) (0 : Nat)), ((6 : Nat), AV.adr (6 : Nat) (0 : Nat)), ((19 : Nat), AV.p true (PV.v (Value.bool false))), ((42 : Nat), AV.p true (PV.v (Value.bool (oddV (openN n) f (oddP x.p (9 : Int)) (9 : Int))))), ((7 : Nat), AV.p true (PV.v (Value.int IntKind.i64 (0 : Int))))] [((2 : Nat), Ob.box [AV.p true (PV.v (Value.slice none (0 : Nat) (0 : Nat))), AV.p true (PV.v (Value.slice none (0 : Nat) (0 : Nat)))]), ((1009 : Nat), Ob.box [AV.p false (PV.sl nn (1 : Nat) (openN n) (PB f)), AV.p true (PV.v (Value.int IntKind.i64 (↑(oddP (oddP x.p (9 : Int)) (9 : Int)) : Int)))]), ((1011 : Nat), Ob.row Mode.u false (1 : Nat) x.n (TR x.f) []), ((2011 : Nat), Ob.row Mode.u false (1 : Nat) x.m (RR x.w x.h) []), ((6 : Nat), Ob.box [AV.own (1011 : Nat), AV.own (2011 : Nat)])])) (VC.stop [Item.ir ir40_T2] (St.mk [((0 : Nat), AV.p false (PV.sl nn (1 : Nat) n (PB f))), ((2 : Nat), AV.adr (2 : Nat) (0 : Nat)), ((3 : Nat), AV.p true (PV.v (Value.string (ByteArray.mk #[])))), ((4 : Nat), AV.p true (PV.v (Value.string (ByteArray.mk #[])))), ((5 : Nat), AV.adr (1009 : Nat) (0 : Nat)), ((6 : Nat), AV.adr (6 : Nat) (0 : Nat)), ((19 : Nat), AV.p true (PV.v (Value.bool false))), ((42 : Nat), AV.p true (PV.v (Value.bool (oddV (openN n) f (oddP x.p (9 : Int)) (9 : Int)))))] [((2 : Nat), Ob.box [AV.p true (PV.v (Value.slice none (0 : Nat) (0 : Nat))), AV.p true (PV.v (Value.slice none (0 : Nat) (0 : Nat)))]), ((1009 : Nat), Ob.box [AV.p false (PV.sl nn (1 : Nat) (openN n) (PB f)), AV.p true (PV.v (Value.int IntKind.i64 (↑(oddP (oddP x.p (9 : Int)) (9 : Int)) : Int)))]), ((1011 : Nat), Ob.row Mode.u false (1 : Nat) x.n (TR x.f) []), ((2011 : Nat), Ob.row Mode.u false (1 : Nat) x.m (RR x.w x.h) []), ((6 : Nat), Ob.box [AV.own (1011 : Nat), AV.own (2011 : Nat)])])))))) := by intros; kernel_rfl
def st_dG (nn : Bool) (n : Nat) (f : Nat → Int) (q : Nat) (N : Nat) (F : Nat → ByteArray) (m : Nat) (w : Nat → Nat) (h : Nat → Nat → Int) : St := ⟨[(2, .adr 2 0), (3, AT ⟨#[]⟩), (4, AT ⟨#[]⟩), (5, .adr 1009 0), (6, .adr 6 0)], [(2, .box [nilT, nilT]), (1009, RD nn n f q), (1011, .row .u false 1 N (TR F) []), (2011, .row .u false 1 m (RR w h) []), (6, .box [.own 1011, .own 2011])]⟩
theorem evr_dGT : ∀ (nn : Bool) (n : Nat) (f : Nat → Int) (q N : Nat) (F : Nat → ByteArray) (m : Nat) (w : Nat → Nat) (h : Nat → Nat → Int), ev G0 res40 [] (3000 : Nat) (Or.call [(1009 : Nat)] (AI (pickV n f q (6 : Int))) [((0 : Nat), RD nn n f (q + (1 : Nat)))] (Or.call [(1009 : Nat)] (AI (pickV n f (q + (1 : Nat)) (6 : Int))) [((0 : Nat), RD nn n f (q + (1 : Nat) + (1 : Nat)))] Or.nil)) [Item.ir ir40_T2] (st_dG nn n f q N F m w h) = VC.call (87 : Nat) [AV.adr (0 : Nat) (0 : Nat), AV.p true (PV.v (Value.int IntKind.i64 (6 : Int)))] [((0 : Nat), Ob.box [AV.p false (PV.sl nn (1 : Nat) n (PB f)), AV.p true (PV.v (Value.int IntKind.i64 (↑q : Int)))])] (AI (pickV n f q (6 : Int))) [((0 : Nat), RD nn n f (q + (1 : Nat)))] (VC.need ((0 : Int) ≤ pickV n f q (6 : Int) ∧ (pickV n f q (6 : Int)).toNat < (6 : Nat)) (VC.need ((pickV n f q (6 : Int)).toNat < (6 : Nat)) (VC.need ((0 : Int) ≤ litI [(0 : Int), (0 : Int), (0 : Int), (1 : Int), (1 : Int), (2 : Int)] (pickV n f q (6 : Int)).toNat ∧ (litI [(0 : Int), (0 : Int), (0 : Int), (1 : Int), (1 : Int), (2 : Int)] (pickV n f q (6 : Int)).toNat).toNat < (3 : Nat)) (VC.need ((litI [(0 : Int), (0 : Int), (0 : Int), (1 : Int), (1 : Int), (2 : Int)] (pickV n f q (6 : Int)).toNat).toNat < (3 : Nat)) (VC.call (87 : Nat) [AV.adr (0 : Nat) (0 : Nat), AV.p true (PV.v (Value.int IntKind.i64 (6 : Int)))] [((0 : Nat), Ob.box [AV.p false (PV.sl nn (1 : Nat) n (PB f)), AV.p true (PV.v (Value.int IntKind.i64 (↑(q + (1 : Nat)) : Int)))])] (AI (pickV n f (q + (1 : Nat)) (6 : Int))) [((0 : Nat), RD nn n f (q + (1 : Nat) + (1 : Nat)))] (VC.need ((0 : Int) ≤ pickV n f (q + (1 : Nat)) (6 : Int) ∧ (pickV n f (q + (1 : Nat)) (6 : Int)).toNat < (6 : Nat)) (VC.need ((pickV n f (q + (1 : Nat)) (6 : Int)).toNat < (6 : Nat)) (VC.need ((0 : Int) ≤ litI [(0 : Int), (0 : Int), (1 : Int), (1 : Int), (1 : Int), (2 : Int)] (pickV n f (q + (1 : Nat)) (6 : Int)).toNat ∧ (litI [(0 : Int), (0 : Int), (1 : Int), (1 : Int), (1 : Int), (2 : Int)] (pickV n f (q + (1 : Nat)) (6 : Int)).toNat).toNat < (3 : Nat)) (VC.need ((litI [(0 : Int), (0 : Int), (1 : Int), (1 : Int), (1 : Int), (2 : Int)] (pickV n f (q + (1 : Nat)) (6 : Int)).toNat).toNat < (3 : Nat)) (VC.done (St.mk [((2 : Nat), AV.adr (2 : Nat) (0 : Nat)), ((3 : Nat), AV.p true (PV.v (Value.string (litS [ByteArray.mk #[(97 : UInt8)], ByteArray.mk #[(98 : UInt8)], ByteArray.mk #[(120 : UInt8)]] (litI [(0 : Int), (0 : Int), (0 : Int), (1 : Int), (1 : Int), (2 : Int)] (pickV n f q (6 : Int)).toNat).toNat)))), ((4 : Nat), AV.p true (PV.v (Value.string (litS [ByteArray.mk #[(97 : UInt8)], ByteArray.mk #[(98 : UInt8)], ByteArray.mk #[(120 : UInt8)]] (litI [(0 : Int), (0 : Int), (1 : Int), (1 : Int), (1 : Int), (2 : Int)] (pickV n f (q + (1 : Nat)) (6 : Int)).toNat).toNat)))), ((5 : Nat), AV.adr (1009 : Nat) (0 : Nat)), ((6 : Nat), AV.adr (6 : Nat) (0 : Nat))] [((2 : Nat), Ob.box [AV.own (1011 : Nat), AV.own (2011 : Nat)]), ((1009 : Nat), Ob.box [AV.p false (PV.sl nn (1 : Nat) n (PB f)), AV.p true (PV.v (Value.int IntKind.i64 (↑(q + (1 : Nat) + (1 : Nat)) : Int)))]), ((1011 : Nat), Ob.row Mode.u false (1 : Nat) N (TR F) []), ((2011 : Nat), Ob.row Mode.u false (1 : Nat) m (RR w h) []), ((6 : Nat), Ob.box [AV.own (1011 : Nat), AV.own (2011 : Nat)])]))))))))))) := by intros; kernel_rfl
theorem evr_dGC : ∀ (nn : Bool) (n : Nat) (f : Nat → Int) (q N : Nat) (F : Nat → ByteArray) (m : Nat) (w : Nat → Nat) (h : Nat → Nat → Int) (k : List Item), ev G0 res40 [] (3000 : Nat) (Or.call [(1009 : Nat)] (AI (pickV n f q (2 : Int))) [((0 : Nat), RD nn n f (q + (1 : Nat)))] (Or.call [(1009 : Nat)] (AI (pickV n f (q + (1 : Nat)) (2 : Int))) [((0 : Nat), RD nn n f (q + (1 : Nat) + (1 : Nat)))] Or.nil)) (Item.ir ir40_C1 :: Item.ir Ir.ret :: k) (st_dG nn n f q N F m w h) = VC.call (87 : Nat) [AV.adr (0 : Nat) (0 : Nat), AV.p true (PV.v (Value.int IntKind.i64 (2 : Int)))] [((0 : Nat), Ob.box [AV.p false (PV.sl nn (1 : Nat) n (PB f)), AV.p true (PV.v (Value.int IntKind.i64 (↑q : Int)))])] (AI (pickV n f q (2 : Int))) [((0 : Nat), RD nn n f (q + (1 : Nat)))] (VC.need ((0 : Int) ≤ pickV n f q (2 : Int) ∧ (pickV n f q (2 : Int)).toNat < N) (VC.need ((pickV n f q (2 : Int)).toNat < N) (VC.call (87 : Nat) [AV.adr (0 : Nat) (0 : Nat), AV.p true (PV.v (Value.int IntKind.i64 (2 : Int)))] [((0 : Nat), Ob.box [AV.p false (PV.sl nn (1 : Nat) n (PB f)), AV.p true (PV.v (Value.int IntKind.i64 (↑(q + (1 : Nat)) : Int)))])] (AI (pickV n f (q + (1 : Nat)) (2 : Int))) [((0 : Nat), RD nn n f (q + (1 : Nat) + (1 : Nat)))] (VC.need ((0 : Int) ≤ pickV n f (q + (1 : Nat)) (2 : Int) ∧ (pickV n f (q + (1 : Nat)) (2 : Int)).toNat < N) (VC.need ((pickV n f (q + (1 : Nat)) (2 : Int)).toNat < N) (VC.done (St.mk [((2 : Nat), AV.adr (2 : Nat) (0 : Nat)), ((3 : Nat), AV.p true (PV.v (Value.string (F (pickV n f q (2 : Int)).toNat)))), ((4 : Nat), AV.p true (PV.v (Value.string (F (pickV n f (q + (1 : Nat)) (2 : Int)).toNat)))), ((5 : Nat), AV.adr (1009 : Nat) (0 : Nat)), ((6 : Nat), AV.adr (6 : Nat) (0 : Nat))] [((2 : Nat), Ob.box [AV.own (1011 : Nat), AV.own (2011 : Nat)]), ((1009 : Nat), Ob.box [AV.p false (PV.sl nn (1 : Nat) n (PB f)), AV.p true (PV.v (Value.int IntKind.i64 (↑(q + (1 : Nat) + (1 : Nat)) : Int)))]), ((1011 : Nat), Ob.row Mode.u false (1 : Nat) N (TR F) []), ((2011 : Nat), Ob.row Mode.u false (1 : Nat) m (RR w h) []), ((6 : Nat), Ob.box [AV.own (1011 : Nat), AV.own (2011 : Nat)])]))))))) := by intros; kernel_rfl
def st_dGL (nn : Bool) (n : Nat) (f : Nat → Int) (q : Nat) (N : Nat) (F : Nat → ByteArray) (m : Nat) (w : Nat → Nat) (h : Nat → Nat → Int) (k : Nat) : St := ⟨[(2, .adr 2 0), (3, AT ⟨#[]⟩), (4, AT ⟨#[]⟩), (5, .adr 1009 0), (6, .adr 6 0), (7, AI k)], [(2, .box [nilT, nilT]), (1009, RD nn n f q), (1011, .row .u false 1 N (TR F) []), (2011, .row .u false 1 m (RR w h) []), (6, .box [.own 1011, .own 2011])]⟩
theorem evr_dGL : ∀ (nn : Bool) (n : Nat) (f : Nat → Int) (q N : Nat) (F : Nat → ByteArray) (m : Nat) (w : Nat → Nat) (h : Nat → Nat → Int) (k : Nat) (I : Nat × (Nat → Nat → Int) → St → Prop) (x : Nat × (Nat → Nat → Int)), ev G0 res40 [] (3000 : Nat) (((Or.stop (0 : Nat)).split Or.nil).split (Or.stop (1 : Nat))) [Item.ir ir40_L1, Item.lend (I x), Item.bend (0 : Nat), Item.ir ir40_T2] (st_dGL nn n f q N F m w h k) = VC.split (decide ((↑k : Int) < (↑m : Int))) (VC.need ((0 : Int) ≤ (↑k : Int) ∧ (↑k : Int).toNat < m) (VC.need ((↑k : Int).toNat < m) (VC.split (decide ((0 : Int) < (↑(w (↑k : Int).toNat) : Int))) (VC.stop [Item.ir ir40_D1, Item.bend (1 : Nat), Item.ir ir40_E1, Item.lend (I x), Item.bend (0 : Nat), Item.ir ir40_T2] (St.mk [((2 : Nat), AV.adr (2 : Nat) (0 : Nat)), ((3 : Nat), AV.p true (PV.v (Value.string (ByteArray.mk #[])))), ((4 : Nat), AV.p true (PV.v (Value.string (ByteArray.mk #[])))), ((5 : Nat), AV.adr (1009 : Nat) (0 : Nat)), ((6 : Nat), AV.adr (6 : Nat) (0 : Nat)), ((7 : Nat), AV.p true (PV.v (Value.int IntKind.i64 (↑k : Int)))), ((47 : Nat), AV.p true (PV.v (Value.bool (decide ((↑k : Int) < (↑m : Int)))))), ((56 : Nat), AV.p true (PV.v (Value.bool (decide ((0 : Int) < (↑(w (↑k : Int).toNat) : Int))))))] [((2 : Nat), Ob.box [AV.p true (PV.v (Value.slice none (0 : Nat) (0 : Nat))), AV.p true (PV.v (Value.slice none (0 : Nat) (0 : Nat)))]), ((1009 : Nat), Ob.box [AV.p false (PV.sl nn (1 : Nat) n (PB f)), AV.p true (PV.v (Value.int IntKind.i64 (↑q : Int)))]), ((1011 : Nat), Ob.row Mode.u false (1 : Nat) N (TR F) []), ((2011 : Nat), Ob.row Mode.u false (1 : Nat) m (cellSet (RR w h) (↑k : Int).toNat (nat_lit 0) (PV.sl false (1 : Nat) (w (↑k : Int).toNat) fun (j x_1 : Nat) => PI (h (↑k : Int).toNat j))) []), ((6 : Nat), Ob.box [AV.own (1011 : Nat), AV.own (2011 : Nat)])])) (VC.lend (I x) (St.mk [((2 : Nat), AV.adr (2 : Nat) (0 : Nat)), ((3 : Nat), AV.p true (PV.v (Value.string (ByteArray.mk #[])))), ((4 : Nat), AV.p true (PV.v (Value.string (ByteArray.mk #[])))), ((5 : Nat), AV.adr (1009 : Nat) (0 : Nat)), ((6 : Nat), AV.adr (6 : Nat) (0 : Nat)), ((7 : Nat), AV.p true (PV.v (Value.int IntKind.i64 (IntKind.i64.wrap ((↑k : Int) + (1 : Int)))))), ((47 : Nat), AV.p true (PV.v (Value.bool (decide ((↑k : Int) < (↑m : Int)))))), ((56 : Nat), AV.p true (PV.v (Value.bool (decide ((0 : Int) < (↑(w (↑k : Int).toNat) : Int))))))] [((2 : Nat), Ob.box [AV.p true (PV.v (Value.slice none (0 : Nat) (0 : Nat))), AV.p true (PV.v (Value.slice none (0 : Nat) (0 : Nat)))]), ((1009 : Nat), Ob.box [AV.p false (PV.sl nn (1 : Nat) n (PB f)), AV.p true (PV.v (Value.int IntKind.i64 (↑q : Int)))]), ((1011 : Nat), Ob.row Mode.u false (1 : Nat) N (TR F) []), ((2011 : Nat), Ob.row Mode.u false (1 : Nat) m (cellSet (RR w h) (↑k : Int).toNat (nat_lit 0) (PV.sl false (1 : Nat) (w (↑k : Int).toNat) fun (j x_1 : Nat) => PI (h (↑k : Int).toNat j))) []), ((6 : Nat), Ob.box [AV.own (1011 : Nat), AV.own (2011 : Nat)])]))))) (VC.stop [Item.ir ir40_T2] (St.mk [((2 : Nat), AV.adr (2 : Nat) (0 : Nat)), ((3 : Nat), AV.p true (PV.v (Value.string (ByteArray.mk #[])))), ((4 : Nat), AV.p true (PV.v (Value.string (ByteArray.mk #[])))), ((5 : Nat), AV.adr (1009 : Nat) (0 : Nat)), ((6 : Nat), AV.adr (6 : Nat) (0 : Nat)), ((7 : Nat), AV.p true (PV.v (Value.int IntKind.i64 (↑k : Int)))), ((47 : Nat), AV.p true (PV.v (Value.bool (decide ((↑k : Int) < (↑m : Int))))))] [((2 : Nat), Ob.box [AV.p true (PV.v (Value.slice none (0 : Nat) (0 : Nat))), AV.p true (PV.v (Value.slice none (0 : Nat) (0 : Nat)))]), ((1009 : Nat), Ob.box [AV.p false (PV.sl nn (1 : Nat) n (PB f)), AV.p true (PV.v (Value.int IntKind.i64 (↑q : Int)))]), ((1011 : Nat), Ob.row Mode.u false (1 : Nat) N (TR F) []), ((2011 : Nat), Ob.row Mode.u false (1 : Nat) m (RR w h) []), ((6 : Nat), Ob.box [AV.own (1011 : Nat), AV.own (2011 : Nat)])])) := by intros; kernel_rfl
theorem evr_dGD : ∀ (nn : Bool) (n : Nat) (f : Nat → Int) (q N : Nat) (F : Nat → ByteArray) (m : Nat) (w : Nat → Nat) (h : Nat → Nat → Int) (k : Nat) (I : Nat × (Nat → Nat → Int) → St → Prop) (x : Nat × (Nat → Nat → Int)), ev G0 res40 [] (3000 : Nat) Or.nil [Item.ir ir40_D1, Item.bend (1 : Nat), Item.ir ir40_E1, Item.lend (I x), Item.bend (0 : Nat), Item.ir ir40_T2] (st_dGL nn n f q N F m w h k) = VC.need ((0 : Int) ≤ (↑k : Int) ∧ (↑k : Int).toNat < m) (VC.need ((↑k : Int).toNat < m) (VC.need ((0 : Int) ≤ (0 : Int) ∧ Int.toNat (0 : Int) < w (↑k : Int).toNat) (VC.need ((0 : Nat) < w (↑k : Int).toNat) (VC.lend (I x) (St.mk [((2 : Nat), AV.adr (2 : Nat) (0 : Nat)), ((3 : Nat), AV.p true (PV.v (Value.string (ByteArray.mk #[])))), ((4 : Nat), AV.p true (PV.v (Value.string (ByteArray.mk #[])))), ((5 : Nat), AV.adr (1009 : Nat) (0 : Nat)), ((6 : Nat), AV.adr (6 : Nat) (0 : Nat)), ((7 : Nat), AV.p true (PV.v (Value.int IntKind.i64 (IntKind.i64.wrap ((↑k : Int) + (1 : Int))))))] [((2 : Nat), Ob.box [AV.p true (PV.v (Value.slice none (0 : Nat) (0 : Nat))), AV.p true (PV.v (Value.slice none (0 : Nat) (0 : Nat)))]), ((1009 : Nat), Ob.box [AV.p false (PV.sl nn (1 : Nat) n (PB f)), AV.p true (PV.v (Value.int IntKind.i64 (↑q : Int)))]), ((1011 : Nat), Ob.row Mode.u false (1 : Nat) N (TR F) []), ((2011 : Nat), Ob.row Mode.u false (1 : Nat) m (cellSet (RR w h) (↑k : Int).toNat (nat_lit 0) (PV.sl false (1 : Nat) (w (↑k : Int).toNat) (setG [((0 : Nat), (0 : Nat), PV.v (Value.int IntKind.i64 (100000 : Int)))] fun (j x_1 : Nat) => PI (h (↑k : Int).toNat j)))) []), ((6 : Nat), Ob.box [AV.own (1011 : Nat), AV.own (2011 : Nat)])]))))) := by intros; kernel_rfl
abbrev dgR (y : DT × ByteArray × ByteArray) : AV := .tp [taR, AT y.2.1, AT y.2.2]
structure DgOk (y : DT × ByteArray × ByteArray) : Prop where
  ds : DsOk y.1
  h1 : y.2.1.size ≤ 1048576
  h2 : y.2.2.size ≤ 1048576
abbrev DgPost : AV → List (Nat × Ob) → Prop := fun x h => ∃ y : DT × ByteArray × ByteArray, DgOk y ∧ x = dgR y ∧ h = dsH y.1
theorem litS_sz {l : List ByteArray} (h : (l.all fun x => decide (x.size ≤ 100)) = true) (i : Nat) : (litS l i).size ≤ 1048576 :=
  litS_of (φ := fun x => x.size ≤ 1048576) (fun x hx => by
    have := List.all_eq_true.1 h x hx
    have : x.size ≤ 100 := by simpa using this
    omega) (by decide) i
theorem dG_T (nn : Bool) (n : Nat) (f : Nat → Int) (q : Nat) (N : Nat) (F : Nat → ByteArray) (m : Nat) (w : Nat → Nat) (h : Nat → Nat → Int) (hb : Bytes f) (hq : q ≤ 100000) (ok : DsOk ⟨N, F, m, w, h, 0⟩) : M Tryd.prog G0 (Post res40 [] DgPost) [Item.ir ir40_T2] (st_dG nn n f q N F m w h) := by
  refine Go.Gw.M.by [] [] [] ?_ (evr_dGT nn n f q N F m w h) ?_
  · simp [st_dG, hbs, St.lowers, St.lower, stLe, leEnv, leObs, obLe, injB, pinC, AV.leC, AV.leCs, PV.leC, PV.Le_v, St.get, St.obj, look, rho, isNew, keptC, renH, Mode.ok, Mode.isZ, PV.isVal, PV.isNilSl, List.all_nil, List.all_cons, List.any_nil, List.any_cons, List.map_nil, List.map_cons, PV.Le_self]
  · simp only [VC.holds_split, VC.holds_need, VC.holds_doneP, VC.holds_done, VC.holds_either, VC.holds_call, VC.holds_callE, VC.holds_lend, VC.holds_stop, VC.holds_fail, decide_eq_true_eq, decide_eq_false_iff_not]
    have r1 := pick_rng (n := n) (p := q) (m := 6) hb (by omega) (by omega)
    have r2 := pick_rng (n := n) (p := q + 1) (m := 6) hb (by omega) (by omega)
    have k1 := lit_rng (lo := 0) (hi := 2) (l := [0, 0, 0, 1, 1, 2]) (by decide) (i := (pickV n f q 6).toNat) (by simp only [List.length_cons, List.length_nil]; omega)
    have k2 := lit_rng (lo := 0) (hi := 2) (l := [0, 0, 1, 1, 1, 2]) (by decide) (i := (pickV n f (q + 1) 6).toNat) (by simp only [List.length_cons, List.length_nil]; omega)
    refine ⟨c_pick _ _ _ _ _ hb (by omega), ⟨r1.1, by omega⟩, by omega, ⟨k1.1, by omega⟩, by omega, c_pick _ _ _ _ _ hb (by omega), ⟨r2.1, by omega⟩, by omega, ⟨k2.1, by omega⟩, by omega, ?_⟩
    have z1 := litS_sz (l := [⟨#[97]⟩, ⟨#[98]⟩, ⟨#[120]⟩]) (by decide) (litI [0, 0, 0, 1, 1, 2] (pickV n f q 6).toNat).toNat
    have z2 := litS_sz (l := [⟨#[97]⟩, ⟨#[98]⟩, ⟨#[120]⟩]) (by decide) (litI [0, 0, 1, 1, 1, 2] (pickV n f (q + 1) 6).toNat).toNat
    generalize litS [⟨#[97]⟩, ⟨#[98]⟩, ⟨#[120]⟩] (litI [0, 0, 0, 1, 1, 2] (pickV n f q 6).toNat).toNat = S1 at *
    generalize litS [⟨#[97]⟩, ⟨#[98]⟩, ⟨#[120]⟩] (litI [0, 0, 1, 1, 1, 2] (pickV n f (q + 1) 6).toNat).toNat = S2 at *
    refine ResOk.mk [] [(0, 1011), (1, 2011)] [] _ _ ?_ ⟨(⟨N, F, m, w, h, 0⟩, S1, S2), ⟨ok, z1, z2⟩, rfl, rfl⟩
    simp [doneC, resOf, resAV, tup, pinR, PV.Le_self, hbs, St.lowers, St.lower, stLe, leEnv, leObs, obLe, injB, pinC, AV.leC, AV.leCs, PV.leC, PV.Le_v, St.get, St.obj, look, rho, isNew, keptC, renH, Mode.ok, Mode.isZ, PV.isVal, PV.isNilSl, List.all_nil, List.all_cons, List.any_nil, List.any_cons, List.map_nil, List.map_cons, res40, dsH]
theorem dG_C (nn : Bool) (n : Nat) (f : Nat → Int) (q : Nat) (N : Nat) (F : Nat → ByteArray) (m : Nat) (w : Nat → Nat) (h : Nat → Nat → Int) (k : List Item) (hb : Bytes f) (hq : q ≤ 100000) (hN : 1 < N) (ok : DsOk ⟨N, F, m, w, h, 0⟩) : M Tryd.prog G0 (Post res40 [] DgPost) (Item.ir ir40_C1 :: Item.ir Ir.ret :: k) (st_dG nn n f q N F m w h) := by
  refine Go.Gw.M.by [] [] [] ?_ (evr_dGC nn n f q N F m w h k) ?_
  · simp [st_dG, hbs, St.lowers, St.lower, stLe, leEnv, leObs, obLe, injB, pinC, AV.leC, AV.leCs, PV.leC, PV.Le_v, St.get, St.obj, look, rho, isNew, keptC, renH, Mode.ok, Mode.isZ, PV.isVal, PV.isNilSl, List.all_nil, List.all_cons, List.any_nil, List.any_cons, List.map_nil, List.map_cons, PV.Le_self]
  · simp only [VC.holds_split, VC.holds_need, VC.holds_doneP, VC.holds_done, VC.holds_either, VC.holds_call, VC.holds_callE, VC.holds_lend, VC.holds_stop, VC.holds_fail, decide_eq_true_eq, decide_eq_false_iff_not]
    have r1 := pick_rng (n := n) (p := q) (m := 2) hb (by omega) (by omega)
    have r2 := pick_rng (n := n) (p := q + 1) (m := 2) hb (by omega) (by omega)
    refine ⟨c_pick _ _ _ _ _ hb (by omega), ⟨r1.1, by omega⟩, by omega, c_pick _ _ _ _ _ hb (by omega), ⟨r2.1, by omega⟩, by omega, ?_⟩
    have z1 := ok.ok.hf (pickV n f q 2).toNat (by simp only []; omega)
    have z2 := ok.ok.hf (pickV n f (q + 1) 2).toNat (by simp only []; omega)
    simp only [] at z1 z2
    generalize F (pickV n f q 2).toNat = S1 at *
    generalize F (pickV n f (q + 1) 2).toNat = S2 at *
    refine ResOk.mk [] [(0, 1011), (1, 2011)] [] _ _ ?_ ⟨(⟨N, F, m, w, h, 0⟩, S1, S2), ⟨ok, z1, z2⟩, rfl, rfl⟩
    simp [doneC, resOf, resAV, tup, pinR, PV.Le_self, hbs, St.lowers, St.lower, stLe, leEnv, leObs, obLe, injB, pinC, AV.leC, AV.leCs, PV.leC, PV.Le_v, St.get, St.obj, look, rho, isNew, keptC, renH, Mode.ok, Mode.isZ, PV.isVal, PV.isNilSl, List.all_nil, List.all_cons, List.any_nil, List.any_cons, List.map_nil, List.map_cons, res40, dsH]
theorem RR_same {w : Nat → Nat} {h : Nat → Nat → Int} {l : Nat} (i : Nat) : PV.Le (cellSet (RR w h) l 0 (.sl false 1 (w l) fun j _ => PI (h l j)) i 0) (RR w h i 0) := by
  by_cases e : i = l
  · subst e; simp only [cellSet, and_self, if_true]; exact .refl _
  · simp only [cellSet, e, and_false, if_false]; exact .refl _
theorem RR_set0 {w : Nat → Nat} {h : Nat → Nat → Int} {l : Nat} {V : Int} (i : Nat) : PV.Le (cellSet (RR w h) l 0 (.sl false 1 (w l) (setG [(0, 0, .v (.int .i64 V))] fun j _ => PI (h l j))) i 0) (RR w (fun i j => if i = l ∧ j = 0 then V else h i j) i 0) := by
  by_cases e : i = l
  · subst e
    simp only [cellSet, and_self, if_true, RR]
    refine .sl _ _ (fun e => e) 1 _ _ _ _ rfl fun j b hj hb => ?_
    obtain rfl : b = 0 := by omega
    by_cases e2 : j = 0
    · subst e2; simp only [setG, cellSet, and_self, if_true]; exact .refl _
    · simp only [setG, cellSet, e2, and_false, if_false]; exact .refl _
  · simp only [cellSet, e, and_false, false_and, if_false, RR]
    exact .refl _
theorem c_dG (nn : Bool) (n : Nat) (f : Nat → Int) (hb : Bytes f) : PSome Tryd.prog G0 40 [.p false (.sl nn 1 n (PB f))] [] (DT × ByteArray × ByteArray) DgOk dgR (fun y => dsH y.1) := by
  refine PCall.by chk40 rfl (ev_dG nn n f) ?_
  simp only [VC.holds_split, VC.holds_need, VC.holds_doneP, VC.holds_done, VC.holds_either, VC.holds_call, VC.holds_callE, VC.holds_lend, VC.holds_stop, VC.holds_fail, decide_eq_true_eq, decide_eq_false_iff_not]
  refine ⟨c_open _ _ _, c_dTab _ _ _ _ _ _ hb (by omega) (by omega), fun d hd => ?_⟩
  have hp := hd.hp
  have ok := hd.ds
  have o1 := oddP_le d.p 9
  have o2 := oddP_le (oddP d.p 9) 9
  have hdm := hd.hm
  refine ⟨c_odd _ _ _ _ _ hb (by omega), fun h1 => ⟨fun h2 => ?_, fun h2 => ⟨c_odd _ _ _ _ _ hb (by omega), fun h3 => ?_, fun h3 => ?_⟩⟩, fun h1 => ⟨c_odd _ _ _ _ _ hb (by omega), fun h3 => ?_, fun h3 => ?_⟩⟩
  · have h2' : 1 < d.n := by omega
    have r1 := pick_rng (n := openN n) (p := oddP d.p 9) (m := 2) hb (by omega) (by omega)
    refine ⟨c_pick _ _ _ _ _ hb (by omega), ⟨r1.1, by omega⟩, by omega, ⟨by decide, h2'⟩, h2', ?_⟩
    have z := litS_sz (l := [tCount, tTotal]) (by decide) (pickV (openN n) f (oddP d.p 9) 2).toNat
    generalize litS [tCount, tTotal] (pickV (openN n) f (oddP d.p 9) 2).toNat = S at *
    refine Go.Gw.M.wk (Wk.mk [] [] [] ?_) (dG_C nn (openN n) f (oddP d.p 9 + 1) d.n (fun i => if i = 1 then S else d.f i) d.m d.w d.h _ hb (by omega) h2' ⟨⟨ok.ok.hn, fun i hi => ?_, ok.ok.hm, ok.ok.hw⟩, ok.hn, ok.hm, ok.hw⟩)
    · simp [st_dG, hbs, St.lowers, St.lower, stLe, leEnv, leObs, obLe, injB, pinC, AV.leC, AV.leCs, PV.leC, PV.Le_v, St.get, St.obj, look, rho, isNew, keptC, renH, Mode.ok, Mode.isZ, PV.isVal, PV.isNilSl, List.all_nil, List.all_cons, List.any_nil, List.any_cons, List.map_nil, List.map_cons, PV.Le_self]
      intro i hi
      by_cases e : i = 1
      · subst e; simp [setG, cellSet]; exact TR_le' (by simp)
      · simp [setG, cellSet, e]; exact TR_le (by simp [e])
    · simp only []
      split
      · exact z
      · exact ok.ok.hf i hi
  · refine loop_by (fun x : Nat × (Nat → Nat → Int) => st_dGL nn (openN n) f (oddP (oddP d.p 9) 9) d.n d.f d.m d.w x.2 x.1) (fun x => x.1 ≤ d.m) (fun x => d.m - x.1) (0, d.h) [] [] [] (Nat.zero_le _) ?_ (fun I x => evr_dGL nn (openN n) f (oddP (oddP d.p 9) 9) d.n d.f d.m d.w x.2 x.1 I x) fun x hx => ?_
    · simp [st_dGL, hbs, St.lowers, St.lower, stLe, leEnv, leObs, obLe, injB, pinC, AV.leC, AV.leCs, PV.leC, PV.Le_v, St.get, St.obj, look, rho, isNew, keptC, renH, Mode.ok, Mode.isZ, PV.isVal, PV.isNilSl, List.all_nil, List.all_cons, List.any_nil, List.any_cons, List.map_nil, List.map_cons, PV.Le_self]
    · obtain ⟨k, h⟩ := x
      simp only [] at hx
      have ek : IntKind.i64.wrap ((k : Int) + 1) = ((k + 1 : Nat) : Int) := wrap_in (by omega) (by omega)
      have hsame : ∀ i, PV.Le (cellSet (RR d.w h) k 0 (.sl false 1 (d.w k) fun j _ => PI (h k j)) i 0) (RR d.w h i 0) := RR_same
      simp only [VC.holds_split, VC.holds_need, VC.holds_doneP, VC.holds_done, VC.holds_either, VC.holds_call, VC.holds_callE, VC.holds_lend, VC.holds_stop, VC.holds_fail, decide_eq_true_eq, decide_eq_false_iff_not, Int.toNat_natCast]
      refine ⟨fun h0 => ⟨⟨by omega, by omega⟩, by omega, fun h1 => ?_, fun h1 => Again.mk (k + 1, h) [] [] [] (by simp only []; omega) (by simp only []; omega) ?_⟩, fun h0 => ?_⟩
      · refine Go.Gw.M.by [] [] [] ?_ (evr_dGD nn (openN n) f (oddP (oddP d.p 9) 9) d.n d.f d.m d.w h k _ _) ?_
        · simp only [st_dGL]
          generalize RR d.w h = X at *
          simp [hbs, St.lowers, St.lower, stLe, leEnv, leObs, obLe, injB, pinC, AV.leC, AV.leCs, PV.leC, PV.Le_v, St.get, St.obj, look, rho, isNew, keptC, renH, Mode.ok, Mode.isZ, PV.isVal, PV.isNilSl, List.all_nil, List.all_cons, List.any_nil, List.any_cons, List.map_nil, List.map_cons, PV.Le_self]
          exact fun i hi => hsame i
        · have h1' : 0 < d.w k := by simpa using h1
          have hset : ∀ i, PV.Le (cellSet (RR d.w h) k 0 (.sl false 1 (d.w k) (setG [(0, 0, .v (.int .i64 100000))] fun j _ => PI (h k j))) i 0) (RR d.w (fun i j => if i = k ∧ j = 0 then 100000 else h i j) i 0) := RR_set0
          simp only [VC.holds_split, VC.holds_need, VC.holds_doneP, VC.holds_done, VC.holds_either, VC.holds_call, VC.holds_callE, VC.holds_lend, VC.holds_stop, VC.holds_fail, decide_eq_true_eq, decide_eq_false_iff_not, Int.toNat_natCast]
          refine ⟨⟨by omega, by omega⟩, by omega, ⟨by decide, h1'⟩, h1', Again.mk (k + 1, fun i j => if i = k ∧ j = 0 then 100000 else h i j) [] [] [] (by simp only []; omega) (by simp only []; omega) ?_⟩
          simp only [st_dGL]
          generalize RR d.w (fun i j => if i = k ∧ j = 0 then 100000 else h i j) = X2 at *
          generalize RR d.w h = X at *
          simp [hbs, St.lowers, St.lower, stLe, leEnv, leObs, obLe, injB, pinC, AV.leC, AV.leCs, PV.leC, PV.Le_v, St.get, St.obj, look, rho, isNew, keptC, renH, Mode.ok, Mode.isZ, PV.isVal, PV.isNilSl, List.all_nil, List.all_cons, List.any_nil, List.any_cons, List.map_nil, List.map_cons, PV.Le_self, ek]
          exact fun i hi => hset i
      · simp only [st_dGL]
        generalize RR d.w h = X at *
        simp [hbs, St.lowers, St.lower, stLe, leEnv, leObs, obLe, injB, pinC, AV.leC, AV.leCs, PV.leC, PV.Le_v, St.get, St.obj, look, rho, isNew, keptC, renH, Mode.ok, Mode.isZ, PV.isVal, PV.isNilSl, List.all_nil, List.all_cons, List.any_nil, List.any_cons, List.map_nil, List.map_cons, PV.Le_self, ek]
        exact fun i hi => hsame i
      · refine Go.Gw.M.wk (Wk.mk [] [] [] ?_) (dG_T nn (openN n) f (oddP (oddP d.p 9) 9) d.n d.f d.m d.w h hb (by omega) ⟨ok.ok, ok.hn, ok.hm, ok.hw⟩)
        simp [st_dG, hbs, St.lowers, St.lower, stLe, leEnv, leObs, obLe, injB, pinC, AV.leC, AV.leCs, PV.leC, PV.Le_v, St.get, St.obj, look, rho, isNew, keptC, renH, Mode.ok, Mode.isZ, PV.isVal, PV.isNilSl, List.all_nil, List.all_cons, List.any_nil, List.any_cons, List.map_nil, List.map_cons, PV.Le_self]
  · refine Go.Gw.M.wk (Wk.mk [] [] [] ?_) (dG_T nn (openN n) f (oddP (oddP d.p 9) 9) d.n d.f d.m d.w d.h hb (by omega) ⟨ok.ok, ok.hn, ok.hm, ok.hw⟩)
    simp [st_dG, hbs, St.lowers, St.lower, stLe, leEnv, leObs, obLe, injB, pinC, AV.leC, AV.leCs, PV.leC, PV.Le_v, St.get, St.obj, look, rho, isNew, keptC, renH, Mode.ok, Mode.isZ, PV.isVal, PV.isNilSl, List.all_nil, List.all_cons, List.any_nil, List.any_cons, List.map_nil, List.map_cons, PV.Le_self]
  · refine loop_by (fun x : Nat × (Nat → Nat → Int) => st_dGL nn (openN n) f (oddP (oddP d.p 9) 9) d.n d.f d.m d.w x.2 x.1) (fun x => x.1 ≤ d.m) (fun x => d.m - x.1) (0, d.h) [] [] [] (Nat.zero_le _) ?_ (fun I x => evr_dGL nn (openN n) f (oddP (oddP d.p 9) 9) d.n d.f d.m d.w x.2 x.1 I x) fun x hx => ?_
    · simp [st_dGL, hbs, St.lowers, St.lower, stLe, leEnv, leObs, obLe, injB, pinC, AV.leC, AV.leCs, PV.leC, PV.Le_v, St.get, St.obj, look, rho, isNew, keptC, renH, Mode.ok, Mode.isZ, PV.isVal, PV.isNilSl, List.all_nil, List.all_cons, List.any_nil, List.any_cons, List.map_nil, List.map_cons, PV.Le_self]
    · obtain ⟨k, h⟩ := x
      simp only [] at hx
      have ek : IntKind.i64.wrap ((k : Int) + 1) = ((k + 1 : Nat) : Int) := wrap_in (by omega) (by omega)
      have hsame : ∀ i, PV.Le (cellSet (RR d.w h) k 0 (.sl false 1 (d.w k) fun j _ => PI (h k j)) i 0) (RR d.w h i 0) := RR_same
      simp only [VC.holds_split, VC.holds_need, VC.holds_doneP, VC.holds_done, VC.holds_either, VC.holds_call, VC.holds_callE, VC.holds_lend, VC.holds_stop, VC.holds_fail, decide_eq_true_eq, decide_eq_false_iff_not, Int.toNat_natCast]
      refine ⟨fun h0 => ⟨⟨by omega, by omega⟩, by omega, fun h1 => ?_, fun h1 => Again.mk (k + 1, h) [] [] [] (by simp only []; omega) (by simp only []; omega) ?_⟩, fun h0 => ?_⟩
      · refine Go.Gw.M.by [] [] [] ?_ (evr_dGD nn (openN n) f (oddP (oddP d.p 9) 9) d.n d.f d.m d.w h k _ _) ?_
        · simp only [st_dGL]
          generalize RR d.w h = X at *
          simp [hbs, St.lowers, St.lower, stLe, leEnv, leObs, obLe, injB, pinC, AV.leC, AV.leCs, PV.leC, PV.Le_v, St.get, St.obj, look, rho, isNew, keptC, renH, Mode.ok, Mode.isZ, PV.isVal, PV.isNilSl, List.all_nil, List.all_cons, List.any_nil, List.any_cons, List.map_nil, List.map_cons, PV.Le_self]
          exact fun i hi => hsame i
        · have h1' : 0 < d.w k := by simpa using h1
          have hset : ∀ i, PV.Le (cellSet (RR d.w h) k 0 (.sl false 1 (d.w k) (setG [(0, 0, .v (.int .i64 100000))] fun j _ => PI (h k j))) i 0) (RR d.w (fun i j => if i = k ∧ j = 0 then 100000 else h i j) i 0) := RR_set0
          simp only [VC.holds_split, VC.holds_need, VC.holds_doneP, VC.holds_done, VC.holds_either, VC.holds_call, VC.holds_callE, VC.holds_lend, VC.holds_stop, VC.holds_fail, decide_eq_true_eq, decide_eq_false_iff_not, Int.toNat_natCast]
          refine ⟨⟨by omega, by omega⟩, by omega, ⟨by decide, h1'⟩, h1', Again.mk (k + 1, fun i j => if i = k ∧ j = 0 then 100000 else h i j) [] [] [] (by simp only []; omega) (by simp only []; omega) ?_⟩
          simp only [st_dGL]
          generalize RR d.w (fun i j => if i = k ∧ j = 0 then 100000 else h i j) = X2 at *
          generalize RR d.w h = X at *
          simp [hbs, St.lowers, St.lower, stLe, leEnv, leObs, obLe, injB, pinC, AV.leC, AV.leCs, PV.leC, PV.Le_v, St.get, St.obj, look, rho, isNew, keptC, renH, Mode.ok, Mode.isZ, PV.isVal, PV.isNilSl, List.all_nil, List.all_cons, List.any_nil, List.any_cons, List.map_nil, List.map_cons, PV.Le_self, ek]
          exact fun i hi => hset i
      · simp only [st_dGL]
        generalize RR d.w h = X at *
        simp [hbs, St.lowers, St.lower, stLe, leEnv, leObs, obLe, injB, pinC, AV.leC, AV.leCs, PV.leC, PV.Le_v, St.get, St.obj, look, rho, isNew, keptC, renH, Mode.ok, Mode.isZ, PV.isVal, PV.isNilSl, List.all_nil, List.all_cons, List.any_nil, List.any_cons, List.map_nil, List.map_cons, PV.Le_self, ek]
        exact fun i hi => hsame i
      · refine Go.Gw.M.wk (Wk.mk [] [] [] ?_) (dG_T nn (openN n) f (oddP (oddP d.p 9) 9) d.n d.f d.m d.w h hb (by omega) ⟨ok.ok, ok.hn, ok.hm, ok.hw⟩)
        simp [st_dG, hbs, St.lowers, St.lower, stLe, leEnv, leObs, obLe, injB, pinC, AV.leC, AV.leCs, PV.leC, PV.Le_v, St.get, St.obj, look, rho, isNew, keptC, renH, Mode.ok, Mode.isZ, PV.isVal, PV.isNilSl, List.all_nil, List.all_cons, List.any_nil, List.any_cons, List.map_nil, List.map_cons, PV.Le_self]
  · refine Go.Gw.M.wk (Wk.mk [] [] [] ?_) (dG_T nn (openN n) f (oddP (oddP d.p 9) 9) d.n d.f d.m d.w d.h hb (by omega) ⟨ok.ok, ok.hn, ok.hm, ok.hw⟩)
    simp [st_dG, hbs, St.lowers, St.lower, stLe, leEnv, leObs, obLe, injB, pinC, AV.leC, AV.leCs, PV.leC, PV.Le_v, St.get, St.obj, look, rho, isNew, keptC, renH, Mode.ok, Mode.isZ, PV.isVal, PV.isNilSl, List.all_nil, List.all_cons, List.any_nil, List.any_cons, List.map_nil, List.map_cons, PV.Le_self]
theorem ev_lG : ∀ (nn : Bool) (n : Nat) (f : Nat → Int), ev G0 res8 [] (3000 : Nat) (Or.nil.split (Or.callE [] (DT × ByteArray × ByteArray) DgOk dgR (fun (y : DT × ByteArray × ByteArray) => dsH y.fst) fun (x : DT × ByteArray × ByteArray) => Or.call [] (gpR x.1.n x.1.f x.1.m x.1.w x.1.h x.2.1 x.2.2) (gpH x.1.n x.1.f x.1.m x.1.w x.1.h x.2.1 x.2.2) (Or.call [] (gpR x.1.n x.1.f x.1.m x.1.w x.1.h x.2.1 x.2.2) (gpH x.1.n x.1.f x.1.m x.1.w x.1.h x.2.1 x.2.2) (Or.call [] (AB (sameT (gpN x.1.n x.1.f x.1.m x.1.w x.1.h x.2.1 x.2.2) (gNm x.2.1) (gpN x.1.n x.1.f x.1.m x.1.w x.1.h x.2.1 x.2.2) (gNm x.2.1) && sameR (gpM x.1.n x.1.f x.1.m x.1.w x.1.h x.2.1 x.2.2) (fun (x_1 : Nat) => (3 : Nat)) (hG (gpA x.1.n x.1.f x.1.m x.1.h x.2.1 x.2.2)) (gpM x.1.n x.1.f x.1.m x.1.w x.1.h x.2.1 x.2.2) (fun (x_1 : Nat) => (3 : Nat)) (hG (gpA x.1.n x.1.f x.1.m x.1.h x.2.1 x.2.2)))) [] (Or.nil.lit.lit.lit.lit.split (Or.nil.split ((Or.call [] (AB true) [] Or.nil).split (Or.call [] taR (srH x.1.n x.1.f x.1.m x.1.w x.1.h) (Or.call [] (gpR (srN x.1.n x.1.f x.1.m x.1.w x.1.h) x.1.f (srM x.1.n x.1.f x.1.m x.1.w x.1.h) (wL (srtA x.1.m x.1.w x.1.h)) (hL (srtA x.1.m x.1.w x.1.h)) x.2.1 x.2.2) (gpH (srN x.1.n x.1.f x.1.m x.1.w x.1.h) x.1.f (srM x.1.n x.1.f x.1.m x.1.w x.1.h) (wL (srtA x.1.m x.1.w x.1.h)) (hL (srtA x.1.m x.1.w x.1.h)) x.2.1 x.2.2) ((Or.call [] (AB (sameT (gpN (srN x.1.n x.1.f x.1.m x.1.w x.1.h) x.1.f (srM x.1.n x.1.f x.1.m x.1.w x.1.h) (wL (srtA x.1.m x.1.w x.1.h)) (hL (srtA x.1.m x.1.w x.1.h)) x.2.1 x.2.2) (gNm x.2.1) (gpN x.1.n x.1.f x.1.m x.1.w x.1.h x.2.1 x.2.2) (gNm x.2.1) && sameR (gpM (srN x.1.n x.1.f x.1.m x.1.w x.1.h) x.1.f (srM x.1.n x.1.f x.1.m x.1.w x.1.h) (wL (srtA x.1.m x.1.w x.1.h)) (hL (srtA x.1.m x.1.w x.1.h)) x.2.1 x.2.2) (fun (x_1 : Nat) => (3 : Nat)) (hG (gpA (srN x.1.n x.1.f x.1.m x.1.w x.1.h) x.1.f (srM x.1.n x.1.f x.1.m x.1.w x.1.h) (hL (srtA x.1.m x.1.w x.1.h)) x.2.1 x.2.2)) (gpM x.1.n x.1.f x.1.m x.1.w x.1.h x.2.1 x.2.2) (fun (x_1 : Nat) => (3 : Nat)) (hG (gpA x.1.n x.1.f x.1.m x.1.h x.2.1 x.2.2)))) [] Or.nil.lit).lit.lit.split Or.nil.lit.lit.lit))))).lit.lit.lit))))) [Item.ir ir8] (start [AV.p false (PV.sl nn (1 : Nat) n (PB f))] []) = VC.split (decide ((1048576 : Int) < (↑n : Int))) (VC.doneP (AV.p true (PV.v (Value.bool true)))) (VC.callE (DT × ByteArray × ByteArray) (40 : Nat) [AV.p false (PV.sl nn (1 : Nat) n (PB f))] [] DgOk dgR (fun (y : DT × ByteArray × ByteArray) => dsH y.fst) fun (x : DT × ByteArray × ByteArray) => VC.call (41 : Nat) [AV.ag [AV.p false (PV.sl false (1 : Nat) x.1.n (TR x.1.f)), AV.p false (PV.sl false (1 : Nat) x.1.m (RR x.1.w x.1.h))], AV.p true (PV.v (Value.string x.2.1)), AV.p true (PV.v (Value.string x.2.2))] [] (gpR x.1.n x.1.f x.1.m x.1.w x.1.h x.2.1 x.2.2) (gpH x.1.n x.1.f x.1.m x.1.w x.1.h x.2.1 x.2.2) (VC.call (42 : Nat) [AV.ag [AV.p false (PV.sl false (1 : Nat) x.1.n (TR x.1.f)), AV.p false (PV.sl false (1 : Nat) x.1.m (RR x.1.w x.1.h))], AV.p true (PV.v (Value.string x.2.1)), AV.p true (PV.v (Value.string x.2.2))] [] (gpR x.1.n x.1.f x.1.m x.1.w x.1.h x.2.1 x.2.2) (gpH x.1.n x.1.f x.1.m x.1.w x.1.h x.2.1 x.2.2) (VC.call (31 : Nat) [AV.ag [AV.p false (PV.sl false (1 : Nat) (gpN x.1.n x.1.f x.1.m x.1.w x.1.h x.2.1 x.2.2) (TR (gNm x.2.1))), AV.p false (PV.sl false (1 : Nat) (gpM x.1.n x.1.f x.1.m x.1.w x.1.h x.2.1 x.2.2) (RR (fun (x_1 : Nat) => (3 : Nat)) (hG (gpA x.1.n x.1.f x.1.m x.1.h x.2.1 x.2.2))))], AV.ag [AV.p false (PV.sl false (1 : Nat) (gpN x.1.n x.1.f x.1.m x.1.w x.1.h x.2.1 x.2.2) (TR (gNm x.2.1))), AV.p false (PV.sl false (1 : Nat) (gpM x.1.n x.1.f x.1.m x.1.w x.1.h x.2.1 x.2.2) (RR (fun (x_1 : Nat) => (3 : Nat)) (hG (gpA x.1.n x.1.f x.1.m x.1.h x.2.1 x.2.2))))]] [] (AB (sameT (gpN x.1.n x.1.f x.1.m x.1.w x.1.h x.2.1 x.2.2) (gNm x.2.1) (gpN x.1.n x.1.f x.1.m x.1.w x.1.h x.2.1 x.2.2) (gNm x.2.1) && sameR (gpM x.1.n x.1.f x.1.m x.1.w x.1.h x.2.1 x.2.2) (fun (x_1 : Nat) => (3 : Nat)) (hG (gpA x.1.n x.1.f x.1.m x.1.h x.2.1 x.2.2)) (gpM x.1.n x.1.f x.1.m x.1.w x.1.h x.2.1 x.2.2) (fun (x_1 : Nat) => (3 : Nat)) (hG (gpA x.1.n x.1.f x.1.m x.1.h x.2.1 x.2.2)))) [] (VC.split (!(sameT (gpN x.1.n x.1.f x.1.m x.1.w x.1.h x.2.1 x.2.2) (gNm x.2.1) (gpN x.1.n x.1.f x.1.m x.1.w x.1.h x.2.1 x.2.2) (gNm x.2.1) && sameR (gpM x.1.n x.1.f x.1.m x.1.w x.1.h x.2.1 x.2.2) (fun (x_1 : Nat) => (3 : Nat)) (hG (gpA x.1.n x.1.f x.1.m x.1.h x.2.1 x.2.2)) (gpM x.1.n x.1.f x.1.m x.1.w x.1.h x.2.1 x.2.2) (fun (x_1 : Nat) => (3 : Nat)) (hG (gpA x.1.n x.1.f x.1.m x.1.h x.2.1 x.2.2)))) (VC.doneP (AV.p true (PV.v (Value.bool false)))) (VC.split (!gpB x.1.n x.1.f x.1.m x.1.w x.1.h x.2.1 x.2.2 == gpB x.1.n x.1.f x.1.m x.1.w x.1.h x.2.1 x.2.2) (VC.doneP (AV.p true (PV.v (Value.bool false)))) (VC.split (!gpB x.1.n x.1.f x.1.m x.1.w x.1.h x.2.1 x.2.2) (VC.call (19 : Nat) [] [] (AB true) [] (VC.doneP (AV.p true (PV.v (Value.bool true))))) (VC.call (30 : Nat) [AV.ag [AV.p false (PV.sl false (1 : Nat) x.1.n (TR x.1.f)), AV.p false (PV.sl false (1 : Nat) x.1.m (RR x.1.w x.1.h))]] [] taR (srH x.1.n x.1.f x.1.m x.1.w x.1.h) (VC.call (41 : Nat) [AV.ag [AV.p false (PV.sl false (1 : Nat) (srN x.1.n x.1.f x.1.m x.1.w x.1.h) (TR x.1.f)), AV.p false (PV.sl false (1 : Nat) (srM x.1.n x.1.f x.1.m x.1.w x.1.h) (RR (wL (srtA x.1.m x.1.w x.1.h)) (hL (srtA x.1.m x.1.w x.1.h))))], AV.p true (PV.v (Value.string x.2.1)), AV.p true (PV.v (Value.string x.2.2))] [] (gpR (srN x.1.n x.1.f x.1.m x.1.w x.1.h) x.1.f (srM x.1.n x.1.f x.1.m x.1.w x.1.h) (wL (srtA x.1.m x.1.w x.1.h)) (hL (srtA x.1.m x.1.w x.1.h)) x.2.1 x.2.2) (gpH (srN x.1.n x.1.f x.1.m x.1.w x.1.h) x.1.f (srM x.1.n x.1.f x.1.m x.1.w x.1.h) (wL (srtA x.1.m x.1.w x.1.h)) (hL (srtA x.1.m x.1.w x.1.h)) x.2.1 x.2.2) (VC.split (gpB (srN x.1.n x.1.f x.1.m x.1.w x.1.h) x.1.f (srM x.1.n x.1.f x.1.m x.1.w x.1.h) (wL (srtA x.1.m x.1.w x.1.h)) (hL (srtA x.1.m x.1.w x.1.h)) x.2.1 x.2.2) (VC.call (31 : Nat) [AV.ag [AV.p false (PV.sl false (1 : Nat) (gpN (srN x.1.n x.1.f x.1.m x.1.w x.1.h) x.1.f (srM x.1.n x.1.f x.1.m x.1.w x.1.h) (wL (srtA x.1.m x.1.w x.1.h)) (hL (srtA x.1.m x.1.w x.1.h)) x.2.1 x.2.2) (TR (gNm x.2.1))), AV.p false (PV.sl false (1 : Nat) (gpM (srN x.1.n x.1.f x.1.m x.1.w x.1.h) x.1.f (srM x.1.n x.1.f x.1.m x.1.w x.1.h) (wL (srtA x.1.m x.1.w x.1.h)) (hL (srtA x.1.m x.1.w x.1.h)) x.2.1 x.2.2) (RR (fun (x_1 : Nat) => (3 : Nat)) (hG (gpA (srN x.1.n x.1.f x.1.m x.1.w x.1.h) x.1.f (srM x.1.n x.1.f x.1.m x.1.w x.1.h) (hL (srtA x.1.m x.1.w x.1.h)) x.2.1 x.2.2))))], AV.ag [AV.p false (PV.sl false (1 : Nat) (gpN x.1.n x.1.f x.1.m x.1.w x.1.h x.2.1 x.2.2) (TR (gNm x.2.1))), AV.p false (PV.sl false (1 : Nat) (gpM x.1.n x.1.f x.1.m x.1.w x.1.h x.2.1 x.2.2) (RR (fun (x_1 : Nat) => (3 : Nat)) (hG (gpA x.1.n x.1.f x.1.m x.1.h x.2.1 x.2.2))))]] [] (AB (sameT (gpN (srN x.1.n x.1.f x.1.m x.1.w x.1.h) x.1.f (srM x.1.n x.1.f x.1.m x.1.w x.1.h) (wL (srtA x.1.m x.1.w x.1.h)) (hL (srtA x.1.m x.1.w x.1.h)) x.2.1 x.2.2) (gNm x.2.1) (gpN x.1.n x.1.f x.1.m x.1.w x.1.h x.2.1 x.2.2) (gNm x.2.1) && sameR (gpM (srN x.1.n x.1.f x.1.m x.1.w x.1.h) x.1.f (srM x.1.n x.1.f x.1.m x.1.w x.1.h) (wL (srtA x.1.m x.1.w x.1.h)) (hL (srtA x.1.m x.1.w x.1.h)) x.2.1 x.2.2) (fun (x_1 : Nat) => (3 : Nat)) (hG (gpA (srN x.1.n x.1.f x.1.m x.1.w x.1.h) x.1.f (srM x.1.n x.1.f x.1.m x.1.w x.1.h) (hL (srtA x.1.m x.1.w x.1.h)) x.2.1 x.2.2)) (gpM x.1.n x.1.f x.1.m x.1.w x.1.h x.2.1 x.2.2) (fun (x_1 : Nat) => (3 : Nat)) (hG (gpA x.1.n x.1.f x.1.m x.1.h x.2.1 x.2.2)))) [] (VC.doneP (AV.p true (PV.v (Value.bool (sameT (gpN (srN x.1.n x.1.f x.1.m x.1.w x.1.h) x.1.f (srM x.1.n x.1.f x.1.m x.1.w x.1.h) (wL (srtA x.1.m x.1.w x.1.h)) (hL (srtA x.1.m x.1.w x.1.h)) x.2.1 x.2.2) (gNm x.2.1) (gpN x.1.n x.1.f x.1.m x.1.w x.1.h x.2.1 x.2.2) (gNm x.2.1) && sameR (gpM (srN x.1.n x.1.f x.1.m x.1.w x.1.h) x.1.f (srM x.1.n x.1.f x.1.m x.1.w x.1.h) (wL (srtA x.1.m x.1.w x.1.h)) (hL (srtA x.1.m x.1.w x.1.h)) x.2.1 x.2.2) (fun (x_1 : Nat) => (3 : Nat)) (hG (gpA (srN x.1.n x.1.f x.1.m x.1.w x.1.h) x.1.f (srM x.1.n x.1.f x.1.m x.1.w x.1.h) (hL (srtA x.1.m x.1.w x.1.h)) x.2.1 x.2.2)) (gpM x.1.n x.1.f x.1.m x.1.w x.1.h x.2.1 x.2.2) (fun (x_1 : Nat) => (3 : Nat)) (hG (gpA x.1.n x.1.f x.1.m x.1.h x.2.1 x.2.2)))))))) (VC.doneP (AV.p true (PV.v (Value.bool false))))))))))))) := by intros; kernel_rfl
theorem gpA_perm {n : Nat} {f : Nat → ByteArray} {m : Nat} {w : Nat → Nat} {h : Nat → Nat → Int} {s1 s2 : ByteArray} {S : List (List Int)} (hp : S.Perm (tabL m w h)) (hw : ∀ i, i < m → (colT f s1 n).toNat < w i ∧ (colT f s2 n).toNat < w i) : gpA n f m (hL S) s1 s2 = gpA n f m h s1 s2 := by
  have hl : S.length = m := by rw [hp.length_eq, tabL_len]
  have e1 : prL m (fun i => hL S i (colT f s1 n).toNat) (fun i => hL S i (colT f s2 n).toNat) = S.map fun r => (r.getD (colT f s1 n).toNat 0, r.getD (colT f s2 n).toNat 0) := by
    subst hl
    apply List.ext_getElem
    · simp [prL]
    · intro i h1 h2
      have hi : i < S.length := by simpa [prL] using h1
      simp [prL, hL, List.getD_eq_getElem?_getD, hi]
  have e2 : (tabL m w h).map (fun r => (r.getD (colT f s1 n).toNat 0, r.getD (colT f s2 n).toNat 0)) = prL m (fun i => h i (colT f s1 n).toNat) (fun i => h i (colT f s2 n).toNat) := by
    simp only [tabL, prL, List.map_map]
    refine List.map_congr_left fun i hi => ?_
    have hi' : i < m := by simpa using hi
    simp only [Function.comp, rowL_get (hw i hi').1, rowL_get (hw i hi').2]
  simp only [gpA, gpL]
  rw [e1, ← e2]
  exact grpL_perm (hp.map _)
theorem c_lG (nn : Bool) (n : Nat) (f : Nat → Int) (hb : Bytes f) : PRet Tryd.prog G0 8 [.p false (.sl nn 1 n (PB f))] (AB true) := by
  refine PRet.by chk8 (ev_lG nn n f) ?_
  simp only [VC.holds_split, VC.holds_need, VC.holds_doneP, VC.holds_done, VC.holds_either, VC.holds_call, VC.holds_callE, VC.holds_lend, VC.holds_stop, VC.holds_fail, decide_eq_true_eq, decide_eq_false_iff_not]
  refine ⟨fun _ => by simp, fun _ => ⟨c_dG _ _ _ hb, ?_⟩⟩
  rintro ⟨d, s1, s2⟩ hd
  obtain ⟨ds, z1, z2⟩ := hd
  simp only [] at ds z1 z2 ⊢
  have ok := ds.ok
  have hN : gpN d.n d.f d.m d.w d.h s1 s2 ≤ 1048576 := by unfold gpN; split <;> omega
  have hlen : (gpA d.n d.f d.m d.h s1 s2).length ≤ d.m := by
    have := grpL_len (prL d.m (fun i => d.h i (colT d.f s1 d.n).toNat) (fun i => d.h i (colT d.f s2 d.n).toNat))
    have e : (prL d.m (fun i => d.h i (colT d.f s1 d.n).toNat) (fun i => d.h i (colT d.f s2 d.n).toNat)).length = d.m := by simp [prL]
    rw [e] at this; exact this
  have hM : gpM d.n d.f d.m d.w d.h s1 s2 ≤ 1048576 := by
    have := ok.hm
    unfold gpM; split <;> omega
  have st := c_sTb (gpN d.n d.f d.m d.w d.h s1 s2) (gNm s1) (gpM d.n d.f d.m d.w d.h s1 s2) (fun _ => 3) (hG (gpA d.n d.f d.m d.h s1 s2)) (gpN d.n d.f d.m d.w d.h s1 s2) (gNm s1) (gpM d.n d.f d.m d.w d.h s1 s2) (fun _ => 3) (hG (gpA d.n d.f d.m d.h s1 s2)) hN hM (fun _ _ => by decide)
  simp only [sameT_rfl, sameR_rfl, Bool.and_self, Bool.not_true, beq_self_eq_true] at st ⊢
  refine ⟨c_imG _ _ _ _ _ _ _ ok z1, c_spG _ _ _ _ _ _ _ ok z1, st, fun e => (by cases e), fun _ => ⟨fun e => (by cases e), fun _ => ⟨fun h1 => ⟨c_alive, by simp⟩, fun h1 => ?_⟩⟩⟩
  have hB : gpB d.n d.f d.m d.w d.h s1 s2 = true := by simpa using h1
  have hB2 := hB
  simp only [gpB, Bool.and_eq_true] at hB2
  obtain ⟨⟨ht, hg⟩, h3⟩ := hB2
  have hp : (srtA d.m d.w d.h).Perm (tabL d.m d.w d.h) := List.mergeSort_perm _ _
  have ht2 := table_srt hp ht
  have hw := tab_w ht
  obtain ⟨k1, k2⟩ := gn_col hg
  have l1 := (colT_lt d.f s1 d.n).2
  have l2 := (colT_lt d.f s2 d.n).2
  have hG2 : gpA d.n d.f d.m (hL (srtA d.m d.w d.h)) s1 s2 = gpA d.n d.f d.m d.h s1 s2 := gpA_perm hp fun i hi => by rw [hw i hi]; omega
  have eN : srN d.n d.f d.m d.w d.h = d.n := by unfold srN; rw [if_pos ht]
  have eM : srM d.n d.f d.m d.w d.h = d.m := by unfold srM; rw [if_pos ht]
  have w2 := perm_w hp ok.hw
  have okS : TaOk d.n d.f d.m (wL (srtA d.m d.w d.h)) := ⟨ok.hn, ok.hf, ok.hm, w2⟩
  have hBs : gpB d.n d.f d.m (wL (srtA d.m d.w d.h)) (hL (srtA d.m d.w d.h)) s1 s2 = true := by
    simp only [gpB, hG2, ht2, hg, h3, Bool.and_self]
  have q1 := c_imG d.n d.f d.m (wL (srtA d.m d.w d.h)) (hL (srtA d.m d.w d.h)) s1 s2 okS z1
  have eN2 : gpN d.n d.f d.m (wL (srtA d.m d.w d.h)) (hL (srtA d.m d.w d.h)) s1 s2 = gpN d.n d.f d.m d.w d.h s1 s2 := by rw [(gp_yes hBs).1, (gp_yes hB).1]
  have eM2 : gpM d.n d.f d.m (wL (srtA d.m d.w d.h)) (hL (srtA d.m d.w d.h)) s1 s2 = gpM d.n d.f d.m d.w d.h s1 s2 := by rw [(gp_yes hBs).2, (gp_yes hB).2, hG2]
  have q0 := c_imSR d.n d.f d.m d.w d.h ok
  simp only [eN, eM, eN2, eM2, hG2, hBs, gpH, gpR] at q0 q1 ⊢
  refine ⟨q0, q1, fun _ => ⟨?_, ?_⟩, fun e => (by cases e)⟩
  · simp only [sameT_rfl, sameR_rfl, Bool.and_self]; exact st
  · simp [sameT_rfl, sameR_rfl]
theorem law_FnGroupOrder (xs : List AV) (h : Args Tryd.prog Tryd.f8.params.toList xs) : PRet Tryd.prog G0 8 xs (AB true) := by
  have hp : Tryd.f8.params.toList = [22] := by kernel_rfl
  rw [hp] at h
  obtain ⟨nn, n, f, c, cs, hb, h2, rfl, hle⟩ := args_bytes h
  cases h2
  exact (c_lG nn n f hb).args ⟨hle, trivial⟩
end Go.Gw
